/- An inbox in memory; New, cost, Len, Words, Rewind. -/
import Derived.Test.YteiognkbkpidiaaDelRow
import Derived.Deep.DeepCutAuto
import Derived.Deep.CutRange
import Derived.Deep.CutBlock
namespace Go.Proofs.Yteiognkbkpidiaa
open Go.RowKit
attribute [local irreducible] Ext
attribute [local go_sem] run_store_float

/-- A box. -/
structure BoxV (w : World) (S : Nat → Prop) (b : Nat) (most words place : Int) (v : Value) (es : List El) : Prop where
  blk : w.heap[b]? = some (.cells #[.int .i64 most, .int .i64 words, v, .int .i64 place] 59 (0, 0))
  mine : S b
  row : TRow w S v es

section
variable {w w' : World} {S S' : Nat → Prop} {b : Nat} {most words place : Int} {v : Value} {es : List El}

theorem BoxV.lt (h : BoxV w S b most words place v es) : b < w.heap.size := heap_lt h.blk

theorem BoxV.ext (h : BoxV w S b most words place v es) (hE : Ext w w') : BoxV w' S b most words place v es := ⟨hE.keep h.blk, h.mine, h.row.ext hE⟩

theorem BoxV.mono (h : BoxV w S b most words place v es) (hS : ∀ k, S k → S' k) : BoxV w S' b most words place v es := ⟨h.blk, hS _ h.mine, h.row.mono hS⟩

theorem BoxV.bound (h : BoxV w S b most words place v es) : BoxV w (fun k => S k ∧ k < w.heap.size) b most words place v es := ⟨h.blk, ⟨h.mine, h.lt⟩, h.row.bound⟩

theorem BoxV.keep {F : Nat → Prop} (h : BoxV w S b most words place v es) (hM : Mod F w w') (hF : ∀ k, F k → ¬ S k) : BoxV w' S b most words place v es :=
  ⟨hM.keep h.blk (fun hf => hF b hf h.mine), h.mine, h.row.keep hM (fun k hf => .inl (hF k hf))⟩

theorem BoxV.cells (h : BoxV w S b most words place v es) : w.cell? ⟨b, 0, none⟩ = some (.int .i64 most) ∧ w.cell? ⟨b, 1, none⟩ = some (.int .i64 words) ∧ w.cell? ⟨b, 2, none⟩ = some v ∧ w.cell? ⟨b, 3, none⟩ = some (.int .i64 place) ∧
    w.frozen? ⟨b, 0, none⟩ = false ∧ w.frozen? ⟨b, 1, none⟩ = false ∧ w.frozen? ⟨b, 2, none⟩ = false ∧ w.frozen? ⟨b, 3, none⟩ = false :=
  ⟨by simp [cell_of_heap h.blk], by simp [cell_of_heap h.blk], by simp [cell_of_heap h.blk], by simp [cell_of_heap h.blk], free_of_heap h.blk 0, free_of_heap h.blk 1, free_of_heap h.blk 2, free_of_heap h.blk 3⟩

theorem other_box (h : w.heap[b]? = some (.cells #[.int .i64 most, .int .i64 words, v, .int .i64 place] 59 (0, 0))) : Other w b := by
  intro cur hc
  rw [h] at hc
  injection hc with hc
  injection hc with _ e
  exact absurd e (by decide)

theorem BoxV.setWords (h : BoxV w S b most words place v es) (x : Int) : BoxV (w.setCell ⟨b, 1, none⟩ (.int .i64 x)) S b most x place v es := by
  refine ⟨by simpa using heap_set (o := 1) h.blk (.int .i64 x), h.mine, h.row.keep ((Mod.refl (fun k => k = b) w).setCell (p := ⟨b, 1, none⟩) (.inl rfl) _) (fun k e => .inr (e ▸ other_box h.blk))⟩

theorem BoxV.setPlace (h : BoxV w S b most words place v es) (x : Int) : BoxV (w.setCell ⟨b, 3, none⟩ (.int .i64 x)) S b most words x v es := by
  refine ⟨by simpa using heap_set (o := 3) h.blk (.int .i64 x), h.mine, h.row.keep ((Mod.refl (fun k => k = b) w).setCell (p := ⟨b, 3, none⟩) (.inl rfl) _) (fun k e => .inr (e ▸ other_box h.blk))⟩
end

/-- A new row is put in its place. -/
theorem BoxV.setRow {w' : World} {S' : Nat → Prop} {b : Nat} {most words place : Int} {v v' : Value} {es' : List El} (hb : w'.heap[b]? = some (.cells #[.int .i64 most, .int .i64 words, v, .int .i64 place] 59 (0, 0))) (hS : S' b) (hr : TRow w' S' v' es') :
    BoxV (w'.setCell ⟨b, 2, none⟩ v') S' b most words place v' es' := by
  refine ⟨by simpa using heap_set (o := 2) hb v', hS, hr.keep ((Mod.refl (fun k => k = b) w').setCell (p := ⟨b, 2, none⟩) (.inl rfl) _) (fun k e => .inr (e ▸ other_box hb))⟩

theorem box_mod {w : World} {S : Nat → Prop} {b : Nat} (hS : S b) (o : Nat) (u : Value) : Mod S w (w.setCell ⟨b, o, none⟩ u) := (Mod.refl S w).setCell (p := ⟨b, o, none⟩) (.inl hS) u

theorem new_ok (words : Int) (w : World) (h1 : 1 ≤ words) (h2 : words ≤ 16777216) :
    Calls Try.prog 8 #[.int .i64 words] w fun e w' => e = .returned (.tuple #[.pointer (some ⟨w.heap.size, 0, none⟩), .int .i64 0]) ∧ w.alloc (.cells #[.int .i64 words, .int .i64 0, .slice none 0 0, .int .i64 0] 59) = w' := by
  have b1 : decide (words < 1) = false := decide_eq_false (by omega)
  have b2 : decide (16777216 < words) = false := decide_eq_false (by omega)
  clear h1 h2
  go_enter Try.func8, Try.ntmps8
  go_wp2_with fail
  go_ret2
  exact ⟨rfl, rfl⟩

theorem new_bad (words : Int) (w : World) (h : words < 1 ∨ 16777216 < words) :
    Calls Try.prog 8 #[.int .i64 words] w fun e w' => e = .returned (.tuple #[.pointer none, .int .i64 1]) ∧ w = w' := by
  by_cases h1 : words < 1
  · have b1 : decide (words < 1) = true := decide_eq_true h1
    clear h h1
    go_enter Try.func8, Try.ntmps8
    go_wp2_with fail
    go_ret2
    exact ⟨rfl, rfl⟩
  · have b1 : decide (words < 1) = false := decide_eq_false h1
    have b2 : decide (16777216 < words) = true := decide_eq_true (by omega)
    clear h h1
    go_enter Try.func8, Try.ntmps8
    go_wp2_with fail
    go_ret2
    exact ⟨rfl, rfl⟩

theorem box_new (w : World) (S : Nat → Prop) (hS : S w.heap.size) (words : Int) : BoxV (w.alloc (.cells #[.int .i64 words, .int .i64 0, .slice none 0 0, .int .i64 0] 59)) S w.heap.size words 0 0 (.slice none 0 0) [] :=
  ⟨heap_alloc_new w _, hS, TRow.nil _ _⟩

theorem words_range (t : Tm) : 0 ≤ wordsT t ∧ wordsT t ≤ 65536 := by
  unfold wordsT checkT
  rcases meas_cases t 200 65536 with h | h
  · have : measT t 200 65536 < 0 := by omega
    simp [this]
  · have h1 : ¬ measT t 200 65536 < 0 := by omega
    have h2 := meas_le t 200 65536 h
    simp only [if_neg h1]
    split <;> (split <;> omega)

set_option maxRecDepth 100000 in
theorem cost_any {t : Tm} {own : Bool} {G : Nat → Prop} {v : Value} (w : World) (hv : TmV w own G v t) (hc : cntT t ≤ 100000000) (hok : okT t) :
    Calls Try.prog 25 #[v] w fun e w' => e = .returned (.int .i64 (wordsT t + 2)) ∧ Ext w w' := by
  have HK := Lib.hid (fun w (hv : TmV w own G v t) => pwords_any w hv hc hok)
  have hwr := words_range t
  obtain ⟨c, hcc⟩ : ∃ c, checkT t = c := ⟨_, rfl⟩
  obtain ⟨n, hn⟩ : ∃ n, wordsT t = n := ⟨_, rfl⟩
  rw [hcc, hn] at HK
  rw [hn] at hwr ⊢
  have e1 : IntKind.i64.wrap (n + 2) = n + 2 := IntWalk.i64_in _ (by omega)
  obtain ⟨k, m, f, s, L⟩ := t
  obtain ⟨so, cap, rfl, hrow⟩ := hv.parts
  clear hv hc hok hcc hn hwr
  have HE := Lib.hid ((Ext.refl w).alloc (.cells #[.int .i64 k, .int .i64 m, .float .f64 f, .string s, .slice so L.length cap] 27))
  have HR := Lib.hid (hrow.ext HE.out)
  clear hrow
  go_enter Try.func25, Try.ntmps25
  go_wp2_with (go_at_call 43; (with_reducible refine (HK.out _ (TmV.of_parts HR.out)).mono ?_); rintro e wa ⟨rfl, hEa⟩; have HEa := Lib.hid hEa; clear hEa)
  go_ret
  exact ⟨rfl, HE.out.trans HEa.out⟩

section
variable {w : World} {S : Nat → Prop} {b : Nat} {most words place : Int} {v : Value} {es : List El}

theorem blen_any (h : BoxV w S b most words place v es) :
    Calls Try.prog 14 #[.pointer (some ⟨b, 0, none⟩)] w fun e w' => e = .returned (.int .i64 es.length) ∧ w = w' := by
  obtain ⟨so, cap, rfl⟩ := h.row.slice
  obtain ⟨c0, c1, c2, c3, _⟩ := h.cells
  clear h
  go_enter Try.func14, Try.ntmps14
  go_wp2_with fail
  go_ret
  exact ⟨rfl, rfl⟩

theorem bwords_any (h : BoxV w S b most words place v es) :
    Calls Try.prog 21 #[.pointer (some ⟨b, 0, none⟩)] w fun e w' => e = .returned (.int .i64 words) ∧ w = w' := by
  obtain ⟨c0, c1, c2, c3, _⟩ := h.cells
  clear h
  go_enter Try.func21, Try.ntmps21
  go_wp2_with fail
  go_ret
  exact ⟨rfl, rfl⟩
end

end Go.Proofs.Yteiognkbkpidiaa
