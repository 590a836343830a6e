/- NumFinite, plain: whatever Op tells is a right number or nothing; sums and products know no order; a row of numbers. -/
import Derived.Test.YtlpifchimnnfdaaDoorNmClean
import Derived.Test.YtlpifchimnnfdaaDoorNmOp
import Derived.Test.YtlpifchimnnfdaaDoorAppRow
namespace Go.Proofs.YtlpifchimnnfdaaDoor
open Go.RowKit
attribute [local irreducible] Ext

/-- A right number or nothing. -/
def Told (v : Value) : Prop := ∃ k n f e, v = nV k n f e ∧ ((e = 0 ∧ rightB k n f = true) ∨ (e ≠ 0 ∧ k = 0 ∧ n = 0 ∧ f = 0))

theorem told_none (e : Int) (h : e ≠ 0) : Told (nV 0 0 0 e) := ⟨_, _, _, _, rfl, .inr ⟨h, rfl, rfl, rfl⟩⟩

theorem told_mkI (n : Int) : Told (mkI n) := by
  unfold mkI
  split
  · rename_i h
    refine ⟨_, _, _, _, rfl, .inl ⟨rfl, ?_⟩⟩
    unfold rightB
    rw [if_pos rfl, decide_eq_true h.1, decide_eq_true h.2]
    rfl
  · exact told_none 12 (by decide)

theorem told_mkF (f : Nat) : Told (mkF f) := by
  unfold mkF
  split
  · rename_i h
    refine ⟨_, _, _, _, rfl, .inl ⟨rfl, ?_⟩⟩
    unfold rightB
    rw [if_neg (by decide), h]
    rfl
  · exact told_none 11 (by decide)

theorem told_mkO (r : Option Nat) : Told (mkO r) := by
  cases r with
  | none => exact told_none 11 (by decide)
  | some b => exact told_mkF b

theorem told_op (sg : ByteArray) (k n : Int) (f : Nat) (r : Bool) (k' n' : Int) (f' : Nat) (r' : Bool) : Told (opV sg k n f r k' n' f' r') := by
  unfold opV
  split
  · exact told_none 13 (by decide)
  · split
    · exact told_none 11 (by decide)
    · split
      · split
        · unfold dvV
          split
          · exact told_none 11 (by decide)
          · split
            · exact told_mkI _
            · exact told_mkI _
        · exact told_none 11 (by decide)
      · split
        · exact told_mkI _
        · unfold flV
          split
          · exact told_none 11 (by decide)
          · exact told_mkO _

/-- Sums and products know no order. -/
theorem op_comm (sg : ByteArray) (h : sg = ⟨#[43]⟩ ∨ sg = ⟨#[42]⟩) (k n : Int) (f : Nat) (r : Bool) (k' n' : Int) (f' : Nat) (r' : Bool) : opV sg k n f r k' n' f' r' = opV sg k' n' f' r' k n f r := by
  unfold opV
  rw [Bool.and_comm r' r, Bool.and_comm (k' == 1) (k == 1)]
  rcases h with rfl | rfl
  · have e1 : exI ⟨#[43]⟩ n n' = exI ⟨#[43]⟩ n' n := by
      have a : ∀ x y, exI ⟨#[43]⟩ x y = x + y := fun x y => by kernel_rfl
      rw [a, a, Int.add_comm]
    have e2 : ∀ x y, flV ⟨#[43]⟩ x y = flV ⟨#[43]⟩ y x := fun x y => by
      have a : ∀ x y, flV ⟨#[43]⟩ x y = mkO (Ieee.double.add x y) := fun x y => by kernel_rfl
      rw [a, a, add_comm]
    have e3 : wholeB ⟨#[43]⟩ = false := by kernel_rfl
    rw [e1, e2, e3]
    rfl
  · have e1 : exI ⟨#[42]⟩ n n' = exI ⟨#[42]⟩ n' n := by
      have a : ∀ x y, exI ⟨#[42]⟩ x y = x * y := fun x y => by kernel_rfl
      rw [a, a, Int.mul_comm]
    have e2 : ∀ x y, flV ⟨#[42]⟩ x y = flV ⟨#[42]⟩ y x := fun x y => by
      have a : ∀ x y, flV ⟨#[42]⟩ x y = mkO (Ieee.double.mul x y) := fun x y => by kernel_rfl
      rw [a, a, mul_comm]
    have e3 : wholeB ⟨#[42]⟩ = false := by kernel_rfl
    rw [e1, e2, e3]
    rfl

/-- A number: its kind, its whole number, its float. -/
abbrev Nu := Int × Int × Nat

def nuC (e : Nu) : List Value := [.int .i64 e.1, .int .i64 e.2.1, .float .f64 e.2.2, .string ⟨#[]⟩, .slice none 0 0]
def nu5 (es : List Nu) : List Value := es.flatMap nuC
def nuOk (e : Nu) : Prop := numV e.1 e.2.1 e.2.2 ⟨#[]⟩ 0 = true ∧ e.2.2 < 18446744073709551616

theorem nu5_cons (e : Nu) (es : List Nu) : nu5 (e :: es) = nuC e ++ nu5 es := by simp [nu5]
theorem nu5_append (es fs : List Nu) : nu5 (es ++ fs) = nu5 es ++ nu5 fs := by simp [nu5]
theorem nu5_one (e : Nu) : nu5 [e] = nuC e := by simp [nu5]

theorem nu5_at {L : List Nu} {i : Nat} {x : Nu} (h : L[i]? = some x) (j : Nat) (hj : j < 5) : (nu5 L)[i * 5 + j]? = (nuC x)[j]? := by
  induction L generalizing i with
  | nil => simp at h
  | cons y L ih =>
    rw [nu5_cons]
    cases i with
    | zero =>
      obtain rfl : y = x := by simpa using h
      rw [List.getElem?_append_left (by simp [nuC]; omega)]
      congr 1
      omega
    | succ i =>
      have h' := ih (i := i) (by simpa using h)
      rw [List.getElem?_append_right (by simp [nuC]; omega), ← h']
      congr 1
      simp [nuC]
      omega

theorem nuC_ones (e : Nu) : ∀ u ∈ nuC e, u.oneCell' = true := by
  intro u hu
  simp [nuC] at hu
  rcases hu with rfl | rfl | rfl | rfl | rfl <;> rfl

/-- A row of numbers that is one's own. -/
structure NRow (w0 w : World) (v : Value) (es : List Nu) : Prop where
  ext : Ext w0 w
  own : w.ownsRow w0.heap.size 27 5 v es.length (nu5 es)
  ok : ∀ e ∈ es, nuOk e

theorem NRow.next {w0 w w' : World} {v : Value} {es : List Nu} (h : NRow w0 w v es) (hE : Ext w w') : NRow w0 w' v es := by
  refine ⟨h.ext.trans hE, ?_, h.ok⟩
  unfold Ext at hE
  exact own_keep hE h.own (fun _ _ h => h)

theorem NRow.slice {w0 w : World} {v : Value} {es : List Nu} (h : NRow w0 w v es) : ∃ so cap, v = .slice so es.length cap := own_slice h.own

theorem NRow.new {w0 w : World} (hE : Ext w0 w) (a b c : Nu) (ha : nuOk a) (hb : nuOk b) (hc : nuOk c) :
    NRow w0 (w.alloc (.cells (nuC a ++ nuC b ++ nuC c).toArray 27)) (.slice (some ⟨w.heap.size, 0, none⟩) 3 3) [a, b, c] := by
  refine ⟨hE.alloc _, ⟨rfl, .inr ⟨w.heap.size, 3, _, rfl, hE.size, heap_alloc_new w _, Nat.le_refl _, by decide, by simp [nuC], ?_⟩⟩, ?_⟩
  · simp [nu5, nuC]
  · intro e he
    simp at he
    rcases he with rfl | rfl | rfl
    · exact ha
    · exact hb
    · exact hc

theorem NRow.push {w0 w w' : World} {v v' : Value} {es : List Nu} {e : Nu} (h : NRow w0 w v es) (he : nuOk e) (hown : w'.ownsRow w0.heap.size 27 5 v' (es.length + 1) (nu5 es ++ nuC e)) (hE : Ext w0 w') : NRow w0 w' v' (es ++ [e]) := by
  refine ⟨hE, ?_, ?_⟩
  · rw [List.length_append, nu5_append, nu5_one]
    exact hown
  · intro x hx
    rcases List.mem_append.1 hx with hx | hx
    · exact h.ok x hx
    · obtain rfl : x = e := by simpa using hx
      exact he

theorem NRow.cells {w0 w : World} {so : Option Addr} {n cap : Nat} {es : List Nu} (h : NRow w0 w (.slice so n cap) es) {i : Nat} {e : Nu} (he : es[i]? = some e) :
    ∃ g, so = some ⟨g, 0, none⟩ ∧ w.cell? ⟨g, i * 5, none⟩ = some (.int .i64 e.1) ∧ w.cell? ⟨g, i * 5 + 1, none⟩ = some (.int .i64 e.2.1) ∧ w.cell? ⟨g, i * 5 + 2, none⟩ = some (.float .f64 e.2.2) ∧ w.cell? ⟨g, i * 5 + 3, none⟩ = some (.string ⟨#[]⟩) ∧ w.cell? ⟨g, i * 5 + 4, none⟩ = some (.slice none 0 0) := by
  have hi := (List.getElem?_eq_some_iff.1 he).1
  rcases h.own.2 with ⟨_, h0⟩ | ⟨g, cap', cur, hv, hb, hg, hn, _⟩
  · omega
  · injection hv with hv _ _
    subst hv
    have hown := h.own
    obtain ⟨so', cap'', e'⟩ := own_slice hown
    injection e' with e1 e2 e3
    subst e2
    have key : ∀ j, j < 5 → w.cell? ⟨g, i * 5 + j, none⟩ = (nuC e)[j]? := by
      intro j hj
      rw [World.ownsRow.cellAt (w := w) hown (i * 5 + j) (by omega), nu5_at he j hj]
    refine ⟨g, rfl, ?_, key 1 (by decide), key 2 (by decide), key 3 (by decide), key 4 (by decide)⟩
    have := key 0 (by decide)
    rw [Nat.add_zero] at this
    exact this

theorem NRow.exts {w0 w : World} {g n cap : Nat} {es : List Nu} (h : NRow w0 w (.slice (some ⟨g, 0, none⟩) n cap) es) {i : Nat} {e : Nu} (he : es[i]? = some e) :
    (∀ w', Ext w w' → w'.cell? ⟨g, i * 5, none⟩ = some (.int .i64 e.1)) ∧ (∀ w', Ext w w' → w'.cell? ⟨g, i * 5 + 1, none⟩ = some (.int .i64 e.2.1)) ∧ (∀ w', Ext w w' → w'.cell? ⟨g, i * 5 + 2, none⟩ = some (.float .f64 e.2.2)) ∧ (∀ w', Ext w w' → w'.cell? ⟨g, i * 5 + 3, none⟩ = some (.string ⟨#[]⟩)) ∧ (∀ w', Ext w w' → w'.cell? ⟨g, i * 5 + 4, none⟩ = some (.slice none 0 0)) := by
  obtain ⟨g', hg, c0, c1, c2, c3, c4⟩ := h.cells he
  injection hg with hg
  injection hg with hg _ _
  subst hg
  exact ⟨fun _ hE => hE.cell c0, fun _ hE => hE.cell c1, fun _ hE => hE.cell c2, fun _ hE => hE.cell c3, fun _ hE => hE.cell c4⟩

theorem sg_43 {s : ByteArray} (h : (s.toList == [43]) = true) : s = ⟨#[43]⟩ := by
  have e := str_eq s ⟨#[43]⟩
  rw [show (⟨#[43]⟩ : ByteArray).toList = [43] by kernel_rfl, h] at e
  exact of_decide_eq_true e.symm

theorem sg_42 {s : ByteArray} (h : (s.toList == [42]) = true) : s = ⟨#[42]⟩ := by
  have e := str_eq s ⟨#[42]⟩
  rw [show (⟨#[42]⟩ : ByteArray).toList = [42] by kernel_rfl, h] at e
  exact of_decide_eq_true e.symm

theorem src_nu {w : World} {g : Nat} (e : Nu) (h : w.heap[g]? = some (.cells (nuC e).toArray 27 (0, 0))) : Src w (some ⟨g, 0, none⟩) (nuC e) := by
  intro j u hu
  refine ⟨_, rfl, ?_⟩
  have e1 : (⟨g, 0, none⟩ : Addr).add j = ⟨g, j, none⟩ := by unfold Addr.add; split <;> simp_all
  rw [e1, cell_of_heap h j, ← hu]
  simp

theorem info5n : (Tryd.prog.info? 27).map (fun i => (i.zero, i.size, i.bytes)) = some (some (.agg #[.int .i64 0, .int .i64 0, .float .f64 0, .string ⟨#[]⟩, .slice none 0 0]), 5, 64) := by kernel_rfl

/-- The six signs. -/
def sg6 (j : Nat) : ByteArray := match j with
  | 0 => ⟨#[43]⟩
  | 1 => ⟨#[45]⟩
  | 2 => ⟨#[42]⟩
  | 3 => ⟨#[47]⟩
  | 4 => ⟨#[100, 105, 118]⟩
  | _ => ⟨#[114, 101, 109]⟩

theorem sg6_ok (j : Nat) : sgnB (sg6 j) = true := by
  unfold sg6
  split <;> kernel_rfl

/-- Op of two numbers of the row. -/
theorem op_nu (j : Nat) {a b : Nu} (ha : nuOk a) (hb : nuOk b) : ∃ rk rn rf re, (∀ w, Calls Tryd.prog 25 #[.string (sg6 j), tV a.1 a.2.1 a.2.2, tV b.1 b.2.1 b.2.2] w fun e w' => e = .returned (nV rk rn rf re) ∧ Ext w w') ∧
    ((sg6 j = ⟨#[43]⟩ ∨ sg6 j = ⟨#[42]⟩) → ∀ w, Calls Tryd.prog 25 #[.string (sg6 j), tV b.1 b.2.1 b.2.2, tV a.1 a.2.1 a.2.2] w fun e w' => e = .returned (nV rk rn rf re) ∧ Ext w w') ∧
    ((re = 0 ∧ rightB rk rn rf = true) ∨ (re ≠ 0 ∧ rk = 0 ∧ rn = 0 ∧ rf = 0)) := by
  obtain ⟨rk, rn, rf, re, hv, hr⟩ := told_op (sg6 j) a.1 a.2.1 a.2.2 true b.1 b.2.1 b.2.2 true
  have h1 := fun w => pop_good (sg6 j) (sg6_ok j) a.1 a.2.1 a.2.2 ⟨#[]⟩ none 0 0 b.1 b.2.1 b.2.2 ⟨#[]⟩ none 0 0 ha.2 hb.2 w
  have h2 := fun w => pop_good (sg6 j) (sg6_ok j) b.1 b.2.1 b.2.2 ⟨#[]⟩ none 0 0 a.1 a.2.1 a.2.2 ⟨#[]⟩ none 0 0 hb.2 ha.2 w
  rw [ha.1, hb.1] at h1 h2
  rw [hv] at h1
  refine ⟨rk, rn, rf, re, h1, fun hs => ?_, hr⟩
  rw [← op_comm (sg6 j) hs, hv] at h2
  exact h2

theorem zero_ok : nuOk (2, 0, 0) := ⟨by kernel_rfl, by decide⟩

theorem int_ok (n : Int) : nuOk (1, n.tmod 576460752303423488, 0) := by
  have h := Int.natAbs_tmod n 576460752303423488
  have h2 := Nat.mod_lt n.natAbs (show 0 < (576460752303423488 : Int).natAbs by decide)
  show numV 1 (n.tmod 576460752303423488) 0 ⟨#[]⟩ 0 = true ∧ 0 < 18446744073709551616
  exact ⟨numV_1 ⟨by omega, by omega⟩, by decide⟩

end Go.Proofs.YtlpifchimnnfdaaDoor
