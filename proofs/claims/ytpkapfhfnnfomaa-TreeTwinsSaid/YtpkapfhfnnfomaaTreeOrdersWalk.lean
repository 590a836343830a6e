/- TreeOrders' walk. -/
import Derived.Test.YtpkapfhfnnfomaaTreeRowsWalk
import Derived.StillTailTactics
import Derived.RangeFuncBox
import Derived.Maps.AppendAt
import Derived.Laws.Closers25
namespace Go.Proofs.Ytpkapfhfnnfomaa
open Go.RowKit Go.Shelf
attribute [local irreducible] Ext
attribute [local go_sem] Oper.semAt_some

/-- Two trees side by side. -/
structure OInv (w wr : World) (tb ub : Nat) (t u : Tr Int) : Prop where
  left : RInv w wr tb t
  right : RInv w wr ub u
  apart : tb ≠ ub

theorem OInv.drewN {w wr : World} {tb ub : Nat} {t u : Tr Int} (h : OInv w wr tb ub t u) (n : Nat) : OInv w (wr.drewN n) tb ub t u := ⟨h.left.drewN n, h.right.drewN n, h.apart⟩

theorem RInv.other {w wr w' : World} {tb ub : Nat} {t : Tr Int} (h : RInv w wr tb t) (hM : Mod (fun k => k = ub) wr w') (hu : ∃ p, wr.heap[ub]? = some (.cells #[.pointer p] 50 (0, 0))) (hb : w.heap.size < ub) (hne : tb ≠ ub) : RInv w w' tb t := by
  refine ⟨h.tree.keep hM ?_ hne, hM.keep h.res (fun e => by omega), h.below.trans (hM.below h.below.size (fun k e => by omega)), h.htb, h.sorted, h.bal, h.keys⟩
  rintro k cs fr rfl hk
  obtain ⟨p, hp⟩ := hu
  rw [hp] at hk
  injection hk with hk
  injection hk with h1 h2
  exact absurd h2 (by decide)

theorem TreeAt.blk {w : World} {b : Nat} {t : Tr Int} (h : TreeAt w b t) : ∃ p, w.heap[b]? = some (.cells #[.pointer p] 50 (0, 0)) := by
  obtain ⟨p, h1, _⟩ := h
  exact ⟨p, h1⟩

/-- What Put leaves, and what it may have written. -/
theorem put_rm {w wr : World} {tb : Nat} {t : Tr Int} (h : RInv w wr tb t) (key x : Int) (hm : t.many < 1000000000) (hk : -9223372036854775808 ≤ key) :
    Calls Try.prog 9 #[.pointer (some ⟨tb, 0, none⟩), .int .i64 key, .int .i64 x] wr fun e w' => e = .returned (.bool (!(getR t key).2)) ∧ RInv w w' tb (.put key x t) ∧ Mod (fun k => k = tb) wr w' := by
  refine (putT_any key x wr h.tree hm).mono ?_
  rintro e w' ⟨rfl, ht, hM⟩
  exact ⟨rfl, h.mod hM ht (Tr.sorted_put h.sorted key x) (Tr.bal_put h.bal).1 (by
    intro y hy
    rw [Tr.list_put h.sorted, mem_ins (Tr.sorted_rising h.sorted)] at hy
    rcases hy with rfl | hy
    · exact hk
    · exact h.keys y hy.1), hM⟩

theorem put_o1 {w wr : World} {tb ub : Nat} {t u : Tr Int} (h : OInv w wr tb ub t u) (key x : Int) (hm : t.many < 1000000000) (hk : -9223372036854775808 ≤ key) :
    Calls Try.prog 9 #[.pointer (some ⟨tb, 0, none⟩), .int .i64 key, .int .i64 x] wr fun e w' => e = .returned (.bool (!(getR t key).2)) ∧ OInv w w' tb ub (.put key x t) u := by
  refine (put_rm h.left key x hm hk).mono ?_
  rintro e w' ⟨rfl, hR, hM⟩
  exact ⟨rfl, hR, h.right.other hM h.left.tree.blk h.left.htb (Ne.symm h.apart), h.apart⟩

theorem put_o2 {w wr : World} {tb ub : Nat} {t u : Tr Int} (h : OInv w wr tb ub t u) (key x : Int) (hm : u.many < 1000000000) (hk : -9223372036854775808 ≤ key) :
    Calls Try.prog 9 #[.pointer (some ⟨ub, 0, none⟩), .int .i64 key, .int .i64 x] wr fun e w' => e = .returned (.bool (!(getR u key).2)) ∧ OInv w w' tb ub t (.put key x u) := by
  refine (put_rm h.right key x hm hk).mono ?_
  rintro e w' ⟨rfl, hR, hM⟩
  exact ⟨rfl, h.left.other hM h.right.tree.blk h.right.htb h.apart, hR, h.apart⟩

/-- The keys that were put: each with its half. -/
def Put1 (K : Nat → Option Int) (j : Nat) (t : Tr Int) : Prop := ∀ y : Int × Int, y ∈ t.list ↔ ∃ i k, i < j ∧ K i = some k ∧ y = (k, k.tdiv 2)

theorem Put1.zero (K : Nat → Option Int) : Put1 K 0 .nil := by
  intro y
  simp [Tr.list]

theorem Put1.step {K : Nat → Option Int} {j : Nat} {t : Tr Int} (h : Put1 K j t) (hs : t.sorted) {k : Int} (hk : K j = some k) : Put1 K (j + 1) (.put k (k.tdiv 2) t) := by
  intro y
  rw [Tr.list_put hs, mem_ins (Tr.sorted_rising hs)]
  constructor
  · rintro (rfl | ⟨hy, _⟩)
    · exact ⟨j, k, by omega, hk, rfl⟩
    · obtain ⟨i, k', hi, hk', rfl⟩ := (h y).1 hy
      exact ⟨i, k', by omega, hk', rfl⟩
  · rintro ⟨i, k', hi, hk', rfl⟩
    by_cases e : k' = k
    · subst e; exact .inl rfl
    · have hij : i ≠ j := by
        rintro rfl
        rw [hk] at hk'
        exact e (Option.some.inj hk').symm
      exact .inr ⟨(h _).2 ⟨i, k', by omega, hk', rfl⟩, e⟩

/-- The same keys, turned about. -/
theorem put1_turn {l : List Int} {T : Nat} (hT : T < l.length) {t u : Tr Int} (ht : Put1 (fun i => l[i]?) l.length t) (hu : Put1 (fun i => l[(i + T) % l.length]?) l.length u) (hst : t.sorted) (hsu : u.sorted) : t.list = u.list := by
  refine rising_eq (Tr.sorted_rising hst) (Tr.sorted_rising hsu) fun y => ?_
  rw [ht y, hu y]
  constructor
  · rintro ⟨i, k, hi, hk, rfl⟩
    refine ⟨(i + (l.length - T)) % l.length, k, Nat.mod_lt _ (by omega), ?_, rfl⟩
    have e : ((i + (l.length - T)) % l.length + T) % l.length = i := by
      rw [Nat.mod_add_mod, show i + (l.length - T) + T = i + l.length by omega, Nat.add_mod_right, Nat.mod_eq_of_lt hi]
    simp only [e]
    exact hk
  · rintro ⟨i, k, hi, hk, rfl⟩
    exact ⟨(i + T) % l.length, k, Nat.mod_lt _ (by omega), hk, rfl⟩

theorem ret_box0 {w W : World} {tmps : Array Value} {fn : Func} {F : Fence} {n : Nat} {bx : Nat} (hr : Boxed W w.heap.size 4 (.bool false)) (hfn : fn.results = #[.cell bx 4])
    (hB : Below w.heap.size w W) (ht : tmps[bx]? = some (.pointer (some ⟨w.heap.size, 0, none⟩)) := by rfl) :
    bodyPostM F n Try.prog fn (fun e w' => e = .returned (.bool true) ∧ Below w.heap.size w w') .ret { tmps := tmps, defers := [] } (W.setCell ⟨w.heap.size, 0, none⟩ (.bool true)) := by
  have hr2 : Boxed (W.setCell ⟨w.heap.size, 0, none⟩ (.bool true)) w.heap.size 4 (.bool true) := hr.set _
  have c0 := hr2.cell
  refine ⟨.bool true, ?_, rfl, hB.setCell (p := ⟨w.heap.size, 0, none⟩) (Nat.le_refl _) _⟩
  simp [results, hfn, go_sem, c0, ht]

theorem info_int : (Try.prog.info? 3).map (fun i => (i.zero, i.size, i.bytes)) = some (some (.int .i64 0), 1, 8) := by kernel_rfl

theorem cell_two_new (w : World) (x y : Value) (t : TypeId) : ∀ j u, [x, y][j]? = some u → (w.alloc (.cells #[x, y] t)).cell? ((⟨w.heap.size, 0, none⟩ : Addr).add j) = some u := by
  intro j u hj
  match j, hj with
  | 0, hj =>
    have h := cell_of_heap (heap_alloc_new w (.cells #[x, y] t)) 0
    rw [Addr.add_zero']
    rw [h]
    simpa using hj
  | 1, hj =>
    simp [Addr.add]
    simpa using hj

theorem own_base {w : World} {base size n : Nat} {e : TypeId} {v : Value} {xs : List Value} (ho : w.ownsRow base e size v n xs) {k : Nat} (hk : some k = v.ownBlock) : base ≤ k := by
  rcases ho.2 with ⟨rfl, _⟩ | ⟨g, cap, cur, rfl, hb, _⟩
  · cases hk
  · exact (Option.some.inj hk) ▸ hb

/-- What came, one behind the other. -/
def flat (L : List (Int × Int)) : List Int := L.flatMap fun x => [x.1, x.2]

theorem flat_snoc (L : List (Int × Int)) (x : Int × Int) : flat (L ++ [x]) = flat L ++ [x.1, x.2] := by simp [flat]

theorem flat_length (L : List (Int × Int)) : (flat L).length = 2 * L.length := by
  induction L with
  | nil => rfl
  | cons x L ih =>
    have : flat (x :: L) = [x.1, x.2] ++ flat L := by simp [flat]
    rw [this, List.length_append, ih]
    simp
    omega

theorem flat_at (L : List (Int × Int)) (i : Nat) : (flat L)[2 * i]? = (L[i]?).map Prod.fst ∧ (flat L)[2 * i + 1]? = (L[i]?).map Prod.snd := by
  induction L generalizing i with
  | nil => simp [flat]
  | cons x L ih =>
    have e : flat (x :: L) = x.1 :: x.2 :: flat L := by simp [flat]
    rw [e]
    cases i with
    | zero => simp
    | succ i =>
      have h := ih i
      rw [show 2 * (i + 1) = 2 * i + 1 + 1 by omega]
      simpa using h

/-- What the two sequences carry along. -/
structure Side (w W : World) (tb ub : Nat) (t u : Tr Int) : Prop where
  res : Boxed W w.heap.size 4 (.bool false)
  left : TreeAt W tb t
  right : TreeAt W ub u
  below : Below w.heap.size w W

theorem Side.mod {w W W' : World} {tb ub : Nat} {t u : Tr Int} (h : Side w W tb ub t u) {F : Nat → Prop} (hM : Mod F W W') (hF : ∀ k, F k → w.heap.size < k ∧ ∃ cs T, W.heap[k]? = some (.cells cs T (0, 0)) ∧ T ≠ 55 ∧ T ≠ 50) : Side w W' tb ub t u := by
  have hno : ∀ k cs fr, F k → W.heap[k]? ≠ some (.cells cs 55 fr) := by
    intro k cs fr hk h
    obtain ⟨_, cs', T, hT, hn, _⟩ := hF k hk
    rw [hT] at h
    injection h with h
    injection h with h1 h2
    exact hn h2
  have hnt : ∀ {b : Nat} {t : Tr Int}, TreeAt W b t → ¬ F b := by
    intro b t ht hk
    obtain ⟨p, hp⟩ := ht.blk
    obtain ⟨_, cs', T, hT, _, hn⟩ := hF b hk
    rw [hT] at hp
    injection hp with h
    injection h with h1 h2
    exact hn h2
  exact ⟨hM.keep h.res (fun hk => by have := (hF _ hk).1; omega), h.left.keep hM hno (hnt h.left), h.right.keep hM hno (hnt h.right), h.below.trans (hM.below h.below.size (fun k hk => by have := (hF k hk).1; omega))⟩

theorem side_own {β : Type} (w : World) (tb ub : Nat) (t u : Tr Int) {B : Nat} (hB : w.heap.size ≤ B) : OwnFrom B (fun (_ : β) W => Side w W tb ub t u) := by
  intro s A C row hs hg hr
  have hr' : ∀ r, row = some r → ∃ o : Obj, A.heap[r]? = some o ∧ o.isCells = false := fun r e => (hr r e).2
  exact ⟨boxed_own (β := β) _ _ (fun _ => _) s A C row hs.res hg hr', treeAt_own tb t s A C row hs.left hg hr', treeAt_own ub u s A C row hs.right hg hr', ownFrom_below (β := β) (Nat.le_refl _) hB s A C row hs.below hg hr⟩

theorem keepT_mod {W W' : World} {F : Nat → Prop} (hM : Mod F W W') (hF : ∀ k, F k → ∃ cs T, W.heap[k]? = some (.cells cs T (0, 0)) ∧ T ≠ 55) : KeepT W W' := by
  refine KeepT.of_mod hM ?_
  intro k cs fr hk h
  obtain ⟨cs', T, hT, hn⟩ := hF k hk
  rw [hT] at h
  injection h with h
  injection h with h1 h2
  exact hn h2

/-- A round of the first range: two more stand behind. -/
theorem orders_step {w W w1 : World} {n₀ ab tb ub : Nat} {t u : Tr Int} {v v' : Value} {k m : Nat} {xs ys : List Value} {tmp : Obj} (hv : Boxed W ab 33 v) (hrow : W.ownsRow n₀ 3 1 v k xs) (hS : Side w W tb ub t u)
    (hn : w.heap.size < n₀) (hn₀ : n₀ ≤ W.heap.size) (hab : n₀ ≤ ab) (hown' : w1.ownsRow n₀ 3 1 v' m ys) (hgrow : (W.alloc tmp).grownBy w1 v.ownBlock) :
    Boxed w1 ab 33 v ∧ KeepsOthers W (w1.setCell ⟨ab, 0, none⟩ v') ∧ KeepT W (w1.setCell ⟨ab, 0, none⟩ v') ∧ Boxed (w1.setCell ⟨ab, 0, none⟩ v') ab 33 v' ∧
      (w1.setCell ⟨ab, 0, none⟩ v').ownsRow n₀ 3 1 v' m ys ∧ Side w (w1.setCell ⟨ab, 0, none⟩ v') tb ub t u := by
  obtain ⟨h1, h2, h3, h4, h5⟩ := hv.appended (by decide) hrow hn₀ hab hown' hgrow
  have hM : Mod (fun k => k = ab ∨ some k = v.ownBlock) W (w1.setCell ⟨ab, 0, none⟩ v') :=
    (((Mod.refl _ W).alloc tmp).grown hgrow (fun k e => .inl (.inr e.symm))).setCell (p := ⟨ab, 0, none⟩) (.inl (.inl rfl)) _
  have hF : ∀ k, (k = ab ∨ some k = v.ownBlock) → w.heap.size < k ∧ ∃ cs T, W.heap[k]? = some (.cells cs T (0, 0)) ∧ T ≠ 55 ∧ T ≠ 50 := by
    rintro k (rfl | hk)
    · exact ⟨by omega, _, _, hv, by decide, by decide⟩
    · obtain ⟨cur, hc⟩ := own_blk hrow hk.symm
      have := own_base hrow hk
      exact ⟨by omega, _, _, hc, by decide, by decide⟩
  exact ⟨h1, h4, keepT_mod hM (fun k hk => by obtain ⟨_, cs, T, a, b, _⟩ := hF k hk; exact ⟨cs, T, a, b⟩), h2, h3, hS.mod hM hF⟩

theorem prefix_snoc {α : Type} {pre L : List α} {x y : α} (hp : pre <+: L) (hy : L[pre.length]? = some y) : pre ++ [x] <+: L ↔ y = x := by
  obtain ⟨t, rfl⟩ := hp
  rw [List.getElem?_append_right (Nat.le_refl _), Nat.sub_self] at hy
  cases t with
  | nil => simp at hy
  | cons z t =>
    obtain rfl : z = y := by simpa using hy
    constructor
    · rintro ⟨s, hs⟩
      rw [List.append_assoc] at hs
      have := List.append_cancel_left hs
      simp at this
      exact this.1.symm
    · rintro rfl
      exact ⟨t, by simp⟩

theorem ownFrom_block {β : Type} {B l : Nat} {o : Obj} (h : l < B) : OwnFrom B (fun (_ : β) W => W.heap[l]? = some o) := by
  intro s A C row hs hg hr
  exact (hg.block l (heap_lt hs) (fun e => by have := (hr l e.symm).1; omega)).trans hs

/-- The end of a law with two ranges. -/
theorem ret_box2 {w W : World} {D E : Nat} {tmps : Array Value} {fn : Func} {F : Fence} {n : Nat} {bx : Nat} (hr : Boxed W w.heap.size 4 (.bool false)) (hfn : fn.results = #[.cell bx 4])
    (hB : Below w.heap.size w W) (hK : W.heap[D]? = some (.deferred (some []))) (hD : w.heap.size < D) (hK2 : W.heap[E]? = some (.deferred (some []))) (hE : w.heap.size < E) (hne : D ≠ E) (ht : tmps[bx]? = some (.pointer (some ⟨w.heap.size, 0, none⟩)) := by rfl) :
    bodyPostM F n Try.prog fn (fun e w' => e = .returned (.bool true) ∧ Below w.heap.size w w') .ret { tmps := tmps, defers := [{ target := .collected D, args := #[] }, { target := .collected E, args := #[] }] } (W.setCell ⟨w.heap.size, 0, none⟩ (.bool true)) := by
  have hr2 : Boxed (W.setCell ⟨w.heap.size, 0, none⟩ (.bool true)) w.heap.size 4 (.bool true) := hr.set _
  have hB2 : Below w.heap.size w (W.setCell ⟨w.heap.size, 0, none⟩ (.bool true)) := hB.setCell (p := ⟨w.heap.size, 0, none⟩) (Nat.le_refl _) _
  have hKa : (W.setCell ⟨w.heap.size, 0, none⟩ (.bool true)).heap[D]? = some (.deferred (some [])) := (KeepsOthers.setCell W ⟨w.heap.size, 0, none⟩ (.bool true)).same D _ hK rfl
  have hKb : (W.setCell ⟨w.heap.size, 0, none⟩ (.bool true)).heap[E]? = some (.deferred (some [])) := (KeepsOthers.setCell W ⟨w.heap.size, 0, none⟩ (.bool true)).same E _ hK2 rfl
  generalize (W.setCell ⟨w.heap.size, 0, none⟩ (.bool true)) = W2 at hr2 hB2 hKa hKb ⊢
  have hr3 := boxed_own (β := Unit) w.heap.size 4 (fun _ => .bool true) () _ _ _ hr2 (grownBy_putObj' W2 D (.deferred none)) (fun r e => by cases e; exact ⟨_, hKa, rfl⟩)
  have hB3 := hB2.trans (belowK_b (w := w) (Nat.le_refl _) W2 D _ (.deferred none) (by omega) hKa rfl rfl)
  have hKc : (W2.putObj D (.deferred none)).heap[E]? = some (.deferred (some [])) := (World.putObj_heap_other (Ne.symm hne)).trans hKb
  refine ⟨by simp, .inl ⟨_, _, rfl, run_takeDeferred hKa, ?_⟩⟩
  generalize W2.putObj D (.deferred none) = W3 at hr3 hB3 hKc ⊢
  refine ⟨by simp, .inl ⟨_, _, rfl, run_takeDeferred hKc, ?_⟩⟩
  have hr4 := boxed_own (β := Unit) w.heap.size 4 (fun _ => .bool true) () _ _ _ hr3 (grownBy_putObj' W3 E (.deferred none)) (fun r e => by cases e; exact ⟨_, hKc, rfl⟩)
  have hB4 := hB3.trans (belowK_b (w := w) (Nat.le_refl _) W3 E _ (.deferred none) (by omega) hKc rfl rfl)
  have c0 := hr4.cell
  refine ⟨.bool true, ?_, rfl, hB4⟩
  simp [results, hfn, go_sem, c0, ht]

/-- A round of the second range. -/
theorem orders_step2 {w W : World} {nb tb ub : Nat} {t u : Tr Int} {q : Int} (hS : Side w W tb ub t u) (hn : w.heap.size < nb) (hb : Boxed W nb 3 (.int .i64 q)) (q' : Int) :
    Boxed (W.setCell ⟨nb, 0, none⟩ (.int .i64 q')) nb 3 (.int .i64 q') ∧ KeepsOthers W (W.setCell ⟨nb, 0, none⟩ (.int .i64 q')) ∧ KeepT W (W.setCell ⟨nb, 0, none⟩ (.int .i64 q')) ∧ Side w (W.setCell ⟨nb, 0, none⟩ (.int .i64 q')) tb ub t u ∧ Mod (fun k => k = nb) W (W.setCell ⟨nb, 0, none⟩ (.int .i64 q')) := by
  have hM : Mod (fun k => k = nb) W (W.setCell ⟨nb, 0, none⟩ (.int .i64 q')) := (Mod.refl (fun k => k = nb) W).setCell (p := ⟨nb, 0, none⟩) (.inl rfl) _
  refine ⟨hb.set _, KeepsOthers.setCell _ _ _, keepT_mod hM ?_, hS.mod hM ?_, hM⟩
  · rintro k rfl
    exact ⟨_, _, hb, by decide⟩
  · rintro k rfl
    exact ⟨hn, _, _, hb, by decide, by decide⟩

set_option maxRecDepth 100000 in
set_option maxHeartbeats 4000000 in
theorem treeOrders_any (a0 : Option Addr) (cap : Nat) (l : List Int) (turn : Int) (w : World) (ha : ArgRow w.heap.size w (.slice a0 l.length cap) (l.map (Value.int .i64))) (hl : ∀ n ∈ l, -9223372036854775808 ≤ n ∧ n ≤ 9223372036854775807) :
    Calls Try.prog 4 #[.slice a0 l.length cap, .int .i64 turn] w fun e w' => e = .returned (.bool true) ∧ Below w.heap.size w w' := by
  refine (callsIn_wide (n := 3)).1 ?_
  refine callsIn_of_wp_marks Try.func4 rfl trivial ?_ rfl
  simp only [Try.ntmps4, List.size_toArray, List.length_cons, List.length_nil, Nat.reduceAdd, Nat.reduceSub, Array.replicate_succ, Array.replicate_zero, List.push_toArray, List.append_toArray, List.nil_append, List.cons_append]
  refine wpIn_wide.2 ?_
  have hkn := known_any (w.alloc (.cells #[.bool false] 4))
  have HL := Lib.hid hl
  clear hl
  go_wp2_with fail
  refine hkn.mono ?_
  rintro e w1 ⟨rfl, hM1⟩
  clear hkn
  have hB1 : Below w.heap.size w w1 := ((Below.refl _ w).alloc (Nat.le_refl _) _).trans (hM1.below (by simp) (fun _ h => h.elim))
  have hR1 : Boxed w1 w.heap.size 4 (.bool false) := hM1.keep (Boxed.new w 4 (.bool false)) (fun h => h)
  have c1 := hR1.cell
  have f1 := hR1.frozen
  by_cases hbig : 2000 < l.length
  · have hb1 : decide ((2000 : Int) < (l.length : Int)) = true := decide_eq_true (by omega)
    clear ha
    go_wp2_with fail
    exact ret_box0 hR1 rfl hB1
  · by_cases hnil : l.length = 0
    · have hl0 : l = [] := List.length_eq_zero_iff.1 hnil
      subst hl0
      clear ha hnil hbig
      go_wp2_with fail
      exact ret_box0 hR1 rfl hB1
    · have hb1 : decide ((2000 : Int) < (l.length : Int)) = false := decide_eq_false (by omega)
      have hb2 : ((l.length : Int) == 0) = false := beq_eq_false_iff_ne.2 (by omega)
      have hpos : 0 < l.length := by omega
      have hle : l.length ≤ 2000 := by omega
      clear hnil hbig
      go_wp2_with fail
      refine (new_any _).mono ?_
      rintro e w2 ⟨rfl, ht2, hE2⟩
      obtain ⟨tb, htb⟩ : ∃ tb, w1.heap.size = tb := ⟨_, rfl⟩
      rw [htb] at ht2 ⊢
      have hs2 := hB1.size
      have hR2 : RInv w w2 tb .nil := ⟨ht2, hE2.keep hR1, hB1.trans (hE2.below.mono hs2), by have := hR1.lt; omega, trivial, trivial, fun _ h => (by cases h)⟩
      clear ht2 hE2 hR1 hB1 hM1 hs2 htb c1 f1
      have HR2 := Lib.hid hR2
      clear hR2
      go_wp2_with fail
      refine (new_any _).mono ?_
      rintro e w3 ⟨rfl, ht3, hE3⟩
      obtain ⟨ub, hub⟩ : ∃ ub, w2.heap.size = ub := ⟨_, rfl⟩
      rw [hub] at ht3 ⊢
      have hO : OInv w w3 tb ub .nil .nil := by
        have h2 := HR2.out
        have hlt : tb < w2.heap.size := by
          obtain ⟨p, hp⟩ := h2.tree.blk
          exact heap_lt hp
        refine ⟨⟨TreeAt.ext hE3 h2.tree, hE3.keep h2.res, h2.below.trans (hE3.below.mono h2.below.size), h2.htb, trivial, trivial, h2.keys⟩, ⟨ht3, hE3.keep h2.res, h2.below.trans (hE3.below.mono h2.below.size), by have := h2.htb; omega, trivial, trivial, h2.keys⟩, by omega⟩
      have HO := Lib.hid hO
      clear ht3 hE3 hub HR2 hO
      clear w2
      go_upto_if 38 with (fail)
      go_cut [1] from 39 (fun v wx => w3 = wx ∧ ∃ T : Nat, v = .int .i64 T ∧ (T : Int) < (l.length : Int))
      case first =>
        go_wp2_with fail
        · go_meet
          refine ⟨rfl, ?_⟩
          have hn : turn.tmod (l.length : Int) < 0 := by assumption
          have hbd := tmod_bound turn (l.length : Int) (by omega)
          rw [IntWalk.wrap64_in _ (by omega)]
          exact ⟨(turn.tmod (l.length : Int) + (l.length : Int)).toNat, by rw [Int.toNat_of_nonneg (by omega)], by omega⟩
        · go_meet
          exact ⟨rfl, rem_pos (by omega) (by assumption)⟩
      case rest =>
        obtain ⟨rfl, T, rfl, hT⟩ := hcut
        go_wp2_with fail
        go_loopg [7, 8] l.length (fun g i k wr => ∃ (j : Nat) (t u : Tr Int), j + g = l.length ∧ i = .int .i64 j ∧ Hid (OInv w wr tb ub t u) ∧ Hid (Put1 (fun i => l[i]?) j t ∧ Put1 (fun i => l[(i + T) % l.length]?) j u) ∧ t.many ≤ j ∧ u.many ≤ j)
        case atStart => exact ⟨0, .nil, .nil, by omega, rfl, HO, Lib.hid ⟨Put1.zero _, Put1.zero _⟩, Int.le_refl _, Int.le_refl _⟩
        case round =>
          clear HO w3
          obtain ⟨j, t, u, hj, rfl, HO, HP, hmt, hmu⟩ := hrel
          by_cases hlt : (j : Int) < (l.length : Int)
          · obtain ⟨x, hx⟩ : ∃ x, l[j]? = some x := ⟨l[j]'(by omega), List.getElem?_eq_getElem (by omega)⟩
            obtain ⟨y, hy⟩ : ∃ y, l[(j + T) % l.length]? = some y := ⟨l[(j + T) % l.length]'(Nat.mod_lt _ hpos), List.getElem?_eq_getElem (Nat.mod_lt _ hpos)⟩
            obtain ⟨b, o, cap', he, hb, hcx⟩ := arg_int ha hx
            obtain ⟨b', o', cap'', he', hb', hcy⟩ := arg_int ha hy
            injection he with he1 he2 he3
            subst he1 he3
            injection he' with he1 he2 he3
            injection he1 with he1
            injection he1 with he1 he4
            subst he1 he4
            clear he2 he3
            have hxr := HL.out x (List.mem_of_getElem? hx)
            have hyr := HL.out y (List.mem_of_getElem? hy)
            have dx := (HO.out.left.below.cell (p := ⟨b, o + j, none⟩) hb).trans hcx
            have hO1 : OInv w wr.drew tb ub t u := HO.out.drewN 1
            have hput := put_o1 hO1 x (x.tdiv 2) (by omega) hxr.1
            have hp1 := HP.out.1.step HO.out.left.sorted hx
            have hm1 := Tr.many_put x (x.tdiv 2) t
            have HP1 := Lib.hid hp1
            clear hO1 hp1
            have e1 : IntKind.i64.wrap (x.tdiv 2) = x.tdiv 2 := wrap_i64_tdiv x 2 hxr.1 hxr.2 (by decide)
            have HX := Lib.hid hx
            have HY := Lib.hid hy
            have HYR := Lib.hid hyr
            clear hx hy hcx hxr hyr
            go_wp2_with fail
            go_still_tail 10, (by kernel_rfl)
            change wpList _ _ _ _ _ wr.drew
            go_wp2_with fail
            refine hput.mono ?_
            rintro e w4 ⟨rfl, hO4⟩
            have HO4 := Lib.hid hO4
            clear hput hO4 dx
            have dy := (HO4.out.left.below.cell (p := ⟨b, o + (j + T) % l.length, none⟩) hb).trans hcy
            have hput := put_o2 HO4.out y (y.tdiv 2) (by omega) HYR.out.1
            have e2 : IntKind.i64.wrap (y.tdiv 2) = y.tdiv 2 := wrap_i64_tdiv y 2 HYR.out.1 HYR.out.2 (by decide)
            have e3 : IntKind.i64.wrap ((j : Int) + (T : Int)) = ((j + T : Nat) : Int) := by rw [IntWalk.i64_in _ (by omega)]; rfl
            have hp2 := HP.out.2.step HO.out.right.sorted HY.out
            have hm2 := Tr.many_put y (y.tdiv 2) u
            have HP2 := Lib.hid hp2
            have hq1 : 0 ≤ ((j : Int) + (T : Int)) % (l.length : Int) := Int.emod_nonneg _ (by omega)
            have hq2 : ((j : Int) + (T : Int)) % (l.length : Int) < (l.length : Int) := Int.emod_lt_of_pos _ (by omega)
            clear hcy hp2 HP HO
            go_wp2_with fail
            refine hput.mono ?_
            rintro e w5 ⟨rfl, hO5⟩
            have HO5 := Lib.hid hO5
            have e4 : IntKind.i64.wrap ((j : Int) + 1) = ((j + 1 : Nat) : Int) := by rw [IntWalk.i64_in _ (by omega)]; rfl
            clear hput hO5 dy hq1 hq2 HO4
            go_wp2_with fail
            go_roundg (l.length - j - 1)
            case measure => omega
            case rel => exact ⟨j + 1, _, _, by omega, rfl, HO5, Lib.hid ⟨HP1.out, HP2.out⟩, by omega, by omega⟩
          · obtain rfl : j = l.length := by omega
            clear hlt
            go_wp2_with fail
            have hLL : t.list = u.list := put1_turn (by omega) HP.out.1 HP.out.2 HO.out.left.sorted HO.out.right.sorted
            obtain ⟨p, htp, htt⟩ := HO.out.left.tree
            have cp := cell_of_heap htp 0
            simp only [List.getElem?_toArray, List.getElem?_cons_zero] at cp
            have cp2 := cell_kept cp (World.grownBy_alloc _ (.cells #[.slice none 0 0] 33) none) (fun r e => by cases e)
            refine (allT_any _ cp2).mono ?_
            rintro e w' ⟨rfl, rfl⟩
            clear cp cp2
            go_wp2_with fail
            refine (wpIn_wide (n := 3)).1 ?_
            obtain ⟨w3, hw3⟩ : ∃ w3, wr.alloc (.cells #[.slice none 0 0] 33) = w3 := ⟨_, rfl⟩
            have hs3 : w3.heap.size = wr.heap.size + 1 := by rw [← hw3]; simp
            have hE3 : Ext wr w3 := by rw [← hw3]; exact (Ext.refl wr).alloc _
            have ha3 : Boxed w3 wr.heap.size 33 (.slice none 0 0) := by rw [← hw3]; exact Boxed.new wr 33 (.slice none 0 0)
            rw [hw3]
            clear hw3
            have hL : overL (-9223372036854775808) t = t.list := overL_all HO.out.left.sorted HO.out.left.keys
            have hL2 : overL (-9223372036854775808) u = u.list := overL_all HO.out.right.sorted HO.out.right.keys
            have hmL := Tr.many_list t
            have hmL2 := Tr.many_list u
            obtain ⟨hbs, _, _, hbE⟩ := boxed_facts w3 (-9223372036854775808) p
            have hst := boxed_stops 2 (w := w3) (key := -9223372036854775808) (htt.ext hE3)
            rw [hL, hs3] at hst
            rw [← hLL] at hL2 hmL2
            obtain ⟨w4, hw4⟩ : ∃ w4, boxed w3 (-9223372036854775808) p = w4 := ⟨_, rfl⟩
            rw [hw4] at hst hbs hbE ⊢
            have hE4 := hE3.trans hbE
            have ha4 := hbE.keep ha3
            have hS4 : Side w w4 tb ub t u := ⟨hE4.keep HO.out.left.res, TreeAt.ext hE4 HO.out.left.tree, TreeAt.ext hE4 HO.out.right.tree, HO.out.left.below.trans (hE4.below.mono HO.out.left.below.size)⟩
            have hrlt := HO.out.left.res.lt
            have hN20 : t.list.length ≤ 2000 := by omega
            generalize t.list = L at hst hmL hmL2 hL2 hN20
            clear hw4 hbE hE4 hE3 ha3 hL hLL htt htp HP HO hj hmt hmu ha HL
            obtain ⟨i0, hi, hz0, hz1, hz2⟩ := info_parts info_int
            refine rangeF_ex rfl (by omega) (gf := 34) (lb := #[.pointer (some ⟨wr.heap.size + 1 + 1, 0, none⟩), .pointer (some ⟨wr.heap.size + 1, 0, none⟩)]) rfl trivial (enters_of Try.func34 (by kernel_rfl) rfl)
              hst KeepT.trans (fun W l o o' hl hh hc _ => KeepT.putObj o' hh hc) (Below.refl _ _) (fun _ => rfl)
              (fun pre W => (∃ v, Boxed W wr.heap.size 33 v ∧ W.ownsRow wr.heap.size 3 1 v (flat pre).length ((flat pre).map (Value.int .i64)) ∧ True) ∧ Side w W tb ub t u)
              (fun _ _ _ => False)
              (OwnFrom.and (Own.from (holdsRow_own wr.heap.size wr.heap.size 33 3 1 (fun pre => (flat pre).length) (fun pre => (flat pre).map (Value.int .i64)) (fun _ _ => True)) _) (side_own w tb ub t u (by omega)))
              (fun c => ownFrom_pure _ (fun _ => False))
              ⟨⟨_, ha4, World.ownsRow_nil _ _ _ _, trivial⟩, hS4⟩ ?ex ?done ?stop
            case ex =>
              apply Exists.intro
              apply And.intro
              · intro l x W K hK
                simp only [enc2]
                gi_wp2
                exact hK
              · rintro l pre x W ⟨⟨v, hv, hrow, _⟩, hS⟩ hlen
                have d0 := hv.cell
                have f0 := hv.frozen
                have hfl := flat_length pre
                have hpl : pre.length < 2000 := by omega
                have hflt : (flat pre).length < 4000 := by omega
                have hWs : wr.heap.size ≤ W.heap.size := by
                  have := hv.lt
                  omega
                clear hfl hlen
                gi_wp2_with (gi_at_builtin; refine wpListIn_append_own _ rfl _ _ 33 rfl wr.heap.size 3 i0 (.int .i64 0) 1 8 Try.underlying33 hi hz0 hz1 hz2 rfl (by decide) _ _ _ rfl (hrow.alloc _) ⟨W.heap.size, 0, none⟩ 2 2 [.int .i64 x.1, .int .i64 x.2] rfl rfl (cell_two_new _ _ _ _) (by simp [Value.oneCell']) (by simp only [maxLen]; omega) (by omega) (by simp; omega) ?_; intro v' w1 hown' hgrow _; obtain ⟨g', cap', rfl⟩ := ownsRow_succ hown'; obtain ⟨hv1, hK1, hk1, hv2, hr2, hS2⟩ := orders_step hv hrow hS (by omega) hWs (Nat.le_refl _) hown' hgrow; have hc1 := hv1.cell; have hf1 := hv1.frozen)
                refine ⟨hK1, hk1, ⟨_, hv2, ?_, trivial⟩, hS2⟩
                rw [flat_snoc]
                simpa using hr2
            case done =>
              rintro D L W hD rfl ⟨⟨v, hv, hrow, _⟩, hS⟩ hK
              obtain ⟨p2, hup, hut⟩ := hS.right
              have cp := cell_of_heap hup 0
              simp only [List.getElem?_toArray, List.getElem?_cons_zero] at cp
              have cp2 := cell_kept cp (World.grownBy_alloc _ (.cells #[.int .i64 0] 3) none) (fun r e => by cases e)
              have HK := Lib.hid hK
              have HR := Lib.hid hrow
              clear hst cp hK hrow
              go_wp2_with fail
              refine (allT_any _ cp2).mono ?_
              rintro e w' ⟨rfl, rfl⟩
              clear cp2
              go_wp2_with fail
              refine (wpIn_wide (n := 3)).1 ?_
              obtain ⟨x3, hx3⟩ : ∃ x3, W.alloc (.cells #[.int .i64 0] 3) = x3 := ⟨_, rfl⟩
              have hsx : x3.heap.size = W.heap.size + 1 := by rw [← hx3]; simp
              have hEx : Ext W x3 := by rw [← hx3]; exact (Ext.refl W).alloc _
              have hn3 : Boxed x3 W.heap.size 3 (.int .i64 0) := by rw [← hx3]; exact Boxed.new W 3 (.int .i64 0)
              rw [hx3]
              clear hx3
              obtain ⟨hbs2, _, _, hbE2⟩ := boxed_facts x3 (-9223372036854775808) p2
              have hst := boxed_stops 2 (w := x3) (key := -9223372036854775808) (hut.ext hEx)
              rw [hL2, hsx] at hst
              obtain ⟨x4, hx4⟩ : ∃ x4, boxed x3 (-9223372036854775808) p2 = x4 := ⟨_, rfl⟩
              rw [hx4] at hst hbs2 hbE2 ⊢
              have hE5 := hEx.trans hbE2
              have hn4 := hbE2.keep hn3
              have hM5 : Mod (fun _ => False) W x4 := by unfold Ext at hE5; exact hE5
              have hS5 : Side w x4 tb ub t u := hS.mod hM5 (fun k h => h.elim)
              have hv5 := hE5.keep hv
              have hr5 := own_keep hM5 HR.out (fun k _ h => h)
              have hK5 := hE5.keep HK.out
              have hnw : w.heap.size < W.heap.size := hS.res.lt
              have hDW := heap_lt HK.out
              have hGv : ∀ k, v.ownBlock = some k → k < W.heap.size := fun k hk => by
                obtain ⟨cur, hc⟩ := own_blk HR.out hk
                exact heap_lt hc
              clear hx4 hbE2 hE5 hEx hn3 hM5 hut hup HK HR hv hS
              refine rangeF_ex rfl (by omega) (gf := 34) (lb := #[.pointer (some ⟨W.heap.size + 1 + 1, 0, none⟩), .pointer (some ⟨W.heap.size + 1, 0, none⟩)]) rfl trivial (enters_of Try.func34 (by kernel_rfl) rfl)
                hst KeepT.trans (fun W l o o' hl hh hc _ => KeepT.putObj o' hh hc) (Below.refl _ _) (fun _ => rfl)
                (fun pre W' => (Boxed W' W.heap.size 3 (.int .i64 ((2 * pre.length : Nat) : Int)) ∧ (∃ v, Boxed W' wr.heap.size 33 v ∧ W'.ownsRow wr.heap.size 3 1 v (flat L).length ((flat L).map (Value.int .i64)) ∧ ∀ k, v.ownBlock = some k → k < W.heap.size)) ∧ (pre <+: L ∧ W'.heap[D]? = some (.deferred (some []))) ∧ Side w W' tb ub t u)
                (fun c pre _ => c = .ret ∧ ¬ pre <+: L)
                (OwnFrom.and (Own.from (fun s A B row hs hg hr => ⟨boxed_own _ _ (fun s => .int .i64 ((2 * s.length : Nat) : Int)) s A B row hs.1 hg hr, holdsRow_own wr.heap.size wr.heap.size 33 3 1 (fun _ => (flat L).length) (fun _ => (flat L).map (Value.int .i64)) (fun _ v => ∀ k, v.ownBlock = some k → k < W.heap.size) s A B row hs.2 hg hr⟩) _) (OwnFrom.and (OwnFrom.and (ownFrom_pure _ _) (ownFrom_block (by omega))) (side_own w tb ub t u (by omega))))
                (fun c => ownFrom_pure _ (fun pre => c = .ret ∧ ¬ pre <+: L))
                ⟨⟨hn4, _, hv5, hr5, hGv⟩, ⟨List.nil_prefix, hK5⟩, hS5⟩ ?ex2 ?done2 ?stop2
              case ex2 =>
                apply Exists.intro
                apply And.intro
                · intro l x W K hK
                  simp only [enc2]
                  gi_wp2
                  exact hK
                · rintro l pre x W1 ⟨⟨hb, v1, hv, hrow, hG⟩, ⟨hpre, hD1⟩, hS⟩ hlen
                  obtain ⟨y, hy⟩ : ∃ y, L[pre.length]? = some y := ⟨L[pre.length]'hlen, List.getElem?_eq_getElem hlen⟩
                  have hfl := flat_length L
                  have hfa := flat_at L pre.length
                  rw [hy] at hfa
                  obtain ⟨g, cap1, z1, he, hz1', hc1, _⟩ := own_cell hrow (j := 2 * pre.length) (by omega)
                  obtain ⟨g', cap2, z2, he', hz2', hc2, _⟩ := own_cell hrow (j := 2 * pre.length + 1) (by omega)
                  rw [he] at he'
                  injection he' with he1
                  injection he1 with he1
                  injection he1 with he1
                  subst he1
                  rw [List.getElem?_map, hfa.1] at hz1'
                  rw [List.getElem?_map, hfa.2] at hz2'
                  obtain rfl : Value.int .i64 y.1 = z1 := by simpa using hz1'
                  obtain rfl : Value.int .i64 y.2 = z2 := by simpa using hz2'
                  subst he
                  have hst2 := orders_step2 hS hnw hb ((2 * (pre ++ [x]).length : Nat) : Int)
                  have hps := prefix_snoc (x := x) hpre hy
                  have HS := Lib.hid hst2
                  have HP := Lib.hid hps
                  have HW := Lib.hid hrow
                  have HV := Lib.hid hv
                  have HD := Lib.hid hD1
                  have HG := Lib.hid hG
                  have d0 := hb.cell
                  have f0 := hb.frozen
                  have d1 := hv.cell
                  have r0 := hS.res.cell
                  have r1 := hS.res.frozen
                  obtain ⟨q, hq⟩ : ∃ q, 2 * pre.length = q := ⟨_, rfl⟩
                  have hq2 : 2 * (pre ++ [x]).length = q + 2 := by simp; omega
                  rw [hq2] at HS
                  have HQ := Lib.hid hq2
                  rw [hq] at d0 hc1 hc2
                  have t1 : IntKind.i64.wrap ((q : Int) + 1) = ((q + 1 : Nat) : Int) := by rw [IntWalk.i64_in _ (by omega)]; rfl
                  have t2 : IntKind.i64.wrap ((q : Int) + 2) = ((q + 2 : Nat) : Int) := by rw [IntWalk.i64_in _ (by omega)]; rfl
                  have hql : q + 1 < (flat L).length := by omega
                  have t3 : decide (((flat L).length : Int) ≤ ((q + 1 : Nat) : Int)) = false := decide_eq_false (by omega)
                  clear hst2 hps hrow hD1 hfa hfl hz1' hz2' hq hq2 hv hb hpre hy hlen hG
                  gi_wp2
                  · rename_i hor _ _ _
                    refine ⟨KeepsOthers.setCell _ _ _, rfl, fun hp => ?_⟩
                    obtain rfl := HP.out.1 hp
                    rcases hor with hor | hor
                    · omega
                    · simp at hor
                  · rename_i heq _ hand _ _ _
                    have e : y = x := Prod.ext heq (by simpa using hand.2)
                    obtain ⟨s1, s2, s3, s4, s5⟩ := HS.out
                    refine ⟨s2, s3, ⟨?_, _, s5.keep HV.out (fun e => by omega), own_keep s5 HW.out ?_, HG.out⟩, ⟨HP.out.2 e, s2.same D _ HD.out rfl⟩, s4⟩
                    · have e2 : (2 * ((pre ++ [x]).length : Int)) = ((q + 2 : Nat) : Int) := by
                        have := HQ.out
                        omega
                      rw [e2]
                      exact s1
                    · intro k hk e
                      have := HG.out k hk
                      omega
                  · rename_i hne _ _ _
                    exact ⟨KeepsOthers.setCell _ _ _, rfl, fun hp => hne (by rw [HP.out.1 hp])⟩
              case done2 =>
                rintro D2 ys W2 hD2 rfl ⟨⟨hb, v1, hv, hrow, _⟩, ⟨_, hD1⟩, hS⟩ hK
                have hl1 := len_any W2 hS.left
                have hl2 := len_any W2 hS.right
                rw [hmL] at hl1
                rw [hmL2] at hl2
                obtain ⟨so, sc, rfl⟩ := own_slice hrow
                have hfl := flat_length ys
                have d0 := hb.cell
                have d1 := hv.cell
                have r0 := hS.res.cell
                have r1 := hS.res.frozen
                rw [← hfl] at d0
                have HS := Lib.hid hS
                have HK := Lib.hid hK
                have HD := Lib.hid hD1
                clear hmL hmL2 hL2 hst hfl hb hv hrow hS hK hD1
                go_wp2_with (first
                  | (go_at_call 10; (with_reducible refine hl1.mono ?_); rintro e w' ⟨rfl, rfl⟩)
                  | (go_at_call 10; (with_reducible refine hl2.mono ?_); rintro e w' ⟨rfl, rfl⟩))
                exact ret_box2 HS.out.res rfl HS.out.below HK.out (by omega) HD.out (by omega) (by omega)
              case stop2 =>
                rintro D2 c pre W2 hD2 hpre ⟨_, h⟩ _
                exact absurd hpre h
            case stop =>
              rintro D c pre W hD _ h _
              exact h.elim

end Go.Proofs.Ytpkapfhfnnfomaa
