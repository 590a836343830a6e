/- Signals in memory; the terms that are made of a text or a number; few. -/
import Derived.Test.YtdimmomjildpcaaTmCopy
namespace Go.Proofs.Ytdimmomjildpcaa
open Go.RowKit
attribute [local irreducible] Ext
attribute [local go_sem] run_store_float

/-- A block that holds a signal. -/
def SBox (w : World) (b : Nat) (fr tt kd id rf : Int) (ln : Bool) (nm : ByteArray) (k n : Int) (f : Nat) (s : ByteArray) (so : Option Addr) (m cap : Nat) : Prop := w.heap[b]? = some (.cells #[.int .i64 fr, .int .i64 tt, .int .i64 kd, .int .i64 id, .int .i64 rf, .bool ln, .string nm, .int .i64 k, .int .i64 n, .float .f64 f, .string s, .slice so m cap] 27 (0, 0))

theorem SBox.new (w : World) (fr tt kd id rf : Int) (ln : Bool) (nm : ByteArray) (k n : Int) (f : Nat) (s : ByteArray) (so : Option Addr) (m cap : Nat) : SBox (w.alloc (.cells #[.int .i64 fr, .int .i64 tt, .int .i64 kd, .int .i64 id, .int .i64 rf, .bool ln, .string nm, .int .i64 k, .int .i64 n, .float .f64 f, .string s, .slice so m cap] 27)) w.heap.size fr tt kd id rf ln nm k n f s so m cap := heap_alloc_new w _

section
variable {w w' : World} {b : Nat} {fr tt kd id rf : Int} {ln : Bool} {nm : ByteArray} {k n : Int} {f : Nat} {s : ByteArray} {so : Option Addr} {m cap : Nat}
theorem SBox.ext (h : SBox w b fr tt kd id rf ln nm k n f s so m cap) (hE : Ext w w') : SBox w' b fr tt kd id rf ln nm k n f s so m cap := hE.keep h
theorem SBox.keep {F : Nat → Prop} (h : SBox w b fr tt kd id rf ln nm k n f s so m cap) (hM : Mod F w w') (hF : ¬ F b) : SBox w' b fr tt kd id rf ln nm k n f s so m cap := hM.keep h hF
theorem SBox.cells (h : SBox w b fr tt kd id rf ln nm k n f s so m cap) : w.cell? ⟨b, 0, none⟩ = some (.int .i64 fr) ∧ w.cell? ⟨b, 1, none⟩ = some (.int .i64 tt) ∧ w.cell? ⟨b, 2, none⟩ = some (.int .i64 kd) ∧ w.cell? ⟨b, 3, none⟩ = some (.int .i64 id) ∧ w.cell? ⟨b, 4, none⟩ = some (.int .i64 rf) ∧ w.cell? ⟨b, 5, none⟩ = some (.bool ln) ∧ w.cell? ⟨b, 6, none⟩ = some (.string nm) ∧ w.cell? ⟨b, 7, none⟩ = some (.int .i64 k) ∧ w.cell? ⟨b, 8, none⟩ = some (.int .i64 n) ∧ w.cell? ⟨b, 9, none⟩ = some (.float .f64 f) ∧ w.cell? ⟨b, 10, none⟩ = some (.string s) ∧ w.cell? ⟨b, 11, none⟩ = some (.slice so m cap) :=
  ⟨cell_of_heap h 0, cell_of_heap h 1, cell_of_heap h 2, cell_of_heap h 3, cell_of_heap h 4, cell_of_heap h 5, cell_of_heap h 6, cell_of_heap h 7, cell_of_heap h 8, cell_of_heap h 9, cell_of_heap h 10, cell_of_heap h 11⟩
theorem SBox.free (h : SBox w b fr tt kd id rf ln nm k n f s so m cap) (o : Nat) : w.frozen? ⟨b, o, none⟩ = false := free_of_heap h o
theorem SBox.lt (h : SBox w b fr tt kd id rf ln nm k n f s so m cap) : b < w.heap.size := heap_lt h
end

set_option maxRecDepth 100000 in
theorem a_any (x : ByteArray) (w : World) :
    Calls Try.prog 15 #[.string x] w fun e w' => e = .returned (.agg #[.int .i64 3, .int .i64 0, .float .f64 0, .string x, .slice none 0 0]) ∧ Ext w w' := by
  have hE := Lib.hid (ext_set5 ((Ext.refl w).alloc (.cells #[.int .i64 0, .int .i64 0, .float .f64 0, .string ⟨#[]⟩, .slice none 0 0] 25)) (Nat.le_refl _) 3 0 0 x none 0 0)
  have hz := RBox.new w 0 0 0 ⟨#[]⟩ none 0 0
  have hy := hz.fill 3 0 0 x none 0 0
  obtain ⟨w1, hw1⟩ : ∃ w1, w.alloc (.cells #[.int .i64 0, .int .i64 0, .float .f64 0, .string ⟨#[]⟩, .slice none 0 0] 25) = w1 := ⟨_, rfl⟩
  rw [hw1] at hE hz hy
  obtain ⟨z0, z1, z2, z3, z4⟩ := hz.cells
  have g0 := hz.free 0
  have g1 := hz.free 1
  have g2 := hz.free 2
  have g3 := hz.free 3
  have g4 := hz.free 4
  obtain ⟨y0, y1, y2, y3, y4⟩ := hy.cells
  clear hz hy
  go_enter Try.func15, Try.ntmps15
  go_wp2_with fail
  exact bodyPost_ret (v := .agg #[.int .i64 3, .int .i64 0, .float .f64 0, .string x, .slice none 0 0]) (by simp [results, Try.f15, go_sem, y0, y1, y2, y3, y4]) rfl ⟨rfl, hE.out⟩

set_option maxRecDepth 100000 in
theorem patom_any (x : ByteArray) (w : World) :
    Calls Try.prog 22 #[.string x] w fun e w' => e = .returned (.agg #[.int .i64 3, .int .i64 0, .float .f64 0, .string x, .slice none 0 0]) ∧ Ext w w' := by
  have hE := Lib.hid (ext_set5 ((Ext.refl w).alloc (.cells #[.int .i64 0, .int .i64 0, .float .f64 0, .string ⟨#[]⟩, .slice none 0 0] 25)) (Nat.le_refl _) 3 0 0 x none 0 0)
  have hz := RBox.new w 0 0 0 ⟨#[]⟩ none 0 0
  have hy := hz.fill 3 0 0 x none 0 0
  obtain ⟨w1, hw1⟩ : ∃ w1, w.alloc (.cells #[.int .i64 0, .int .i64 0, .float .f64 0, .string ⟨#[]⟩, .slice none 0 0] 25) = w1 := ⟨_, rfl⟩
  rw [hw1] at hE hz hy
  obtain ⟨z0, z1, z2, z3, z4⟩ := hz.cells
  have g0 := hz.free 0
  have g1 := hz.free 1
  have g2 := hz.free 2
  have g3 := hz.free 3
  have g4 := hz.free 4
  obtain ⟨y0, y1, y2, y3, y4⟩ := hy.cells
  clear hz hy
  go_enter Try.func22, Try.ntmps22
  go_wp2_with fail
  exact bodyPost_ret (v := .agg #[.int .i64 3, .int .i64 0, .float .f64 0, .string x, .slice none 0 0]) (by simp [results, Try.f22, go_sem, y0, y1, y2, y3, y4]) rfl ⟨rfl, hE.out⟩

set_option maxRecDepth 100000 in
theorem ratom_any (x : ByteArray) (w : World) :
    Calls Try.prog 23 #[.string x] w fun e w' => e = .returned (.agg #[.int .i64 3, .int .i64 0, .float .f64 0, .string x, .slice none 0 0]) ∧ Ext w w' := by
  have hE := Lib.hid (ext_set5 ((Ext.refl w).alloc (.cells #[.int .i64 0, .int .i64 0, .float .f64 0, .string ⟨#[]⟩, .slice none 0 0] 25)) (Nat.le_refl _) 3 0 0 x none 0 0)
  have hz := RBox.new w 0 0 0 ⟨#[]⟩ none 0 0
  have hy := hz.fill 3 0 0 x none 0 0
  obtain ⟨w1, hw1⟩ : ∃ w1, w.alloc (.cells #[.int .i64 0, .int .i64 0, .float .f64 0, .string ⟨#[]⟩, .slice none 0 0] 25) = w1 := ⟨_, rfl⟩
  rw [hw1] at hE hz hy
  obtain ⟨z0, z1, z2, z3, z4⟩ := hz.cells
  have g0 := hz.free 0
  have g1 := hz.free 1
  have g2 := hz.free 2
  have g3 := hz.free 3
  have g4 := hz.free 4
  obtain ⟨y0, y1, y2, y3, y4⟩ := hy.cells
  clear hz hy
  go_enter Try.func23, Try.ntmps23
  go_wp2_with fail
  exact bodyPost_ret (v := .agg #[.int .i64 3, .int .i64 0, .float .f64 0, .string x, .slice none 0 0]) (by simp [results, Try.f23, go_sem, y0, y1, y2, y3, y4]) rfl ⟨rfl, hE.out⟩

set_option maxRecDepth 100000 in
theorem pid_any (x : Int) (_ : -9223372036854775808 ≤ x ∧ x ≤ 9223372036854775807) (w : World) :
    Calls Try.prog 28 #[.int .i64 x] w fun e w' => e = .returned (.agg #[.int .i64 6, .int .i64 x, .float .f64 0, .string ⟨#[]⟩, .slice none 0 0]) ∧ Ext w w' := by
  have hE := Lib.hid (ext_set5 ((Ext.refl w).alloc (.cells #[.int .i64 0, .int .i64 0, .float .f64 0, .string ⟨#[]⟩, .slice none 0 0] 25)) (Nat.le_refl _) 6 x 0 ⟨#[]⟩ none 0 0)
  have hz := RBox.new w 0 0 0 ⟨#[]⟩ none 0 0
  have hy := hz.fill 6 x 0 ⟨#[]⟩ none 0 0
  obtain ⟨w1, hw1⟩ : ∃ w1, w.alloc (.cells #[.int .i64 0, .int .i64 0, .float .f64 0, .string ⟨#[]⟩, .slice none 0 0] 25) = w1 := ⟨_, rfl⟩
  rw [hw1] at hE hz hy
  obtain ⟨z0, z1, z2, z3, z4⟩ := hz.cells
  have g0 := hz.free 0
  have g1 := hz.free 1
  have g2 := hz.free 2
  have g3 := hz.free 3
  have g4 := hz.free 4
  obtain ⟨y0, y1, y2, y3, y4⟩ := hy.cells
  clear hz hy
  go_enter Try.func28, Try.ntmps28
  go_wp2_with fail
  exact bodyPost_ret (v := .agg #[.int .i64 6, .int .i64 x, .float .f64 0, .string ⟨#[]⟩, .slice none 0 0]) (by simp [results, Try.f28, go_sem, y0, y1, y2, y3, y4]) rfl ⟨rfl, hE.out⟩

/-- Which kinds have a term, an identifier, a reference, a link, a name. -/
def hasT (kd : Int) : Bool := kd == 1 || kd == 5 || kd == 8
def hasI (kd : Int) : Bool := kd == 3 || kd == 4
def hasR (kd : Int) : Bool := kd == 6 || kd == 7 || kd == 8
def hasL (kd : Int) : Bool := kd == 5
def hasN (kd : Int) : Bool := kd == 6

set_option maxRecDepth 100000 in
set_option maxHeartbeats 1000000 in
theorem has_any (kd : Int) (w : World) : Calls Try.prog 17 #[.int .i64 kd] w fun e w' => e = .returned (.tuple #[.bool (hasT kd), .bool (hasI kd), .bool (hasR kd), .bool (hasL kd), .bool (hasN kd)]) ∧ w = w' := by
  by_cases h1 : kd = 1
  · subst h1
    go_enter Try.func17, Try.ntmps17
    go_wp2_with fail
    exact bodyPost_ret (v := .tuple #[.bool true, .bool false, .bool false, .bool false, .bool false]) (by simp [results, Try.f17, go_sem]) rfl ⟨rfl, rfl⟩
  by_cases h3 : kd = 3
  · subst h3
    go_enter Try.func17, Try.ntmps17
    go_wp2_with fail
    exact bodyPost_ret (v := .tuple #[.bool false, .bool true, .bool false, .bool false, .bool false]) (by simp [results, Try.f17, go_sem]) rfl ⟨rfl, rfl⟩
  by_cases h4 : kd = 4
  · subst h4
    go_enter Try.func17, Try.ntmps17
    go_wp2_with fail
    exact bodyPost_ret (v := .tuple #[.bool false, .bool true, .bool false, .bool false, .bool false]) (by simp [results, Try.f17, go_sem]) rfl ⟨rfl, rfl⟩
  by_cases h5 : kd = 5
  · subst h5
    go_enter Try.func17, Try.ntmps17
    go_wp2_with fail
    exact bodyPost_ret (v := .tuple #[.bool true, .bool false, .bool false, .bool true, .bool false]) (by simp [results, Try.f17, go_sem]) rfl ⟨rfl, rfl⟩
  by_cases h6 : kd = 6
  · subst h6
    go_enter Try.func17, Try.ntmps17
    go_wp2_with fail
    exact bodyPost_ret (v := .tuple #[.bool false, .bool false, .bool true, .bool false, .bool true]) (by simp [results, Try.f17, go_sem]) rfl ⟨rfl, rfl⟩
  by_cases h7 : kd = 7
  · subst h7
    go_enter Try.func17, Try.ntmps17
    go_wp2_with fail
    exact bodyPost_ret (v := .tuple #[.bool false, .bool false, .bool true, .bool false, .bool false]) (by simp [results, Try.f17, go_sem]) rfl ⟨rfl, rfl⟩
  by_cases h8 : kd = 8
  · subst h8
    go_enter Try.func17, Try.ntmps17
    go_wp2_with fail
    exact bodyPost_ret (v := .tuple #[.bool true, .bool false, .bool true, .bool false, .bool false]) (by simp [results, Try.f17, go_sem]) rfl ⟨rfl, rfl⟩
  have c1 : (kd == 1) = false := by simpa using h1
  have c3 : (kd == 3) = false := by simpa using h3
  have c4 : (kd == 4) = false := by simpa using h4
  have c5 : (kd == 5) = false := by simpa using h5
  have c6 : (kd == 6) = false := by simpa using h6
  have c7 : (kd == 7) = false := by simpa using h7
  have c8 : (kd == 8) = false := by simpa using h8
  have e1 : hasT kd = false := by unfold hasT; rw [c1, c5, c8]; rfl
  have e2 : hasI kd = false := by unfold hasI; rw [c3, c4]; rfl
  have e3 : hasR kd = false := by unfold hasR; rw [c6, c7, c8]; rfl
  have e4 : hasL kd = false := by unfold hasL; rw [c5]
  have e5 : hasN kd = false := by unfold hasN; rw [c6]
  rw [e1, e2, e3, e4, e5]
  clear e1 e2 e3 e4 e5 h1 h3 h4 h5 h6 h7 h8
  go_enter Try.func17, Try.ntmps17
  go_wp2_with fail
  exact bodyPost_ret (v := .tuple #[.bool false, .bool false, .bool false, .bool false, .bool false]) (by simp [results, Try.f17, go_sem]) rfl ⟨rfl, rfl⟩

/-- Is a number above 0 just where it is to be there? -/
def numB (x : Int) (b : Bool) : Bool := (decide (0 < x) && b) || (x == 0 && !b)

set_option maxRecDepth 100000 in
theorem number_any (x : Int) (b : Bool) (w : World) : Calls Try.prog 20 #[.int .i64 x, .bool b] w fun e w' => e = .returned (.bool (numB x b)) ∧ w = w' := by
  obtain ⟨y, h⟩ : ∃ y, numB x b = y := ⟨_, rfl⟩
  rw [h]
  have H := Lib.hid h
  clear h
  cases b
  all_goals
    go_enter Try.func20, Try.ntmps20
    go_wp2_with fail
  all_goals
    obtain rfl := H.out
    go_ret
    refine ⟨?_, rfl⟩
    simp_all [numB]

/-- Is a term the zero one? -/
def nothB (k n : Int) (f : Nat) (s : ByteArray) (m : Nat) : Bool := k == 0 && (n == 0 && (FloatKind.f64.format.order f 0 == some .eq && (decide (s = ⟨#[]⟩) && decide (m = 0))))

set_option maxRecDepth 100000 in
set_option maxHeartbeats 1000000 in
theorem nothing_any (k n : Int) (f : Nat) (s : ByteArray) (so : Option Addr) (m cap : Nat) (w : World) :
    Calls Try.prog 19 #[.agg #[.int .i64 k, .int .i64 n, .float .f64 f, .string s, .slice so m cap]] w fun e w' => e = .returned (.bool (nothB k n f s m)) ∧ Ext w w' := by
  obtain ⟨y, h⟩ : ∃ y, nothB k n f s m = y := ⟨_, rfl⟩
  rw [h]
  have H := Lib.hid h
  clear h
  have HS := Lib.hid (str_nil s)
  go_enter Try.func19, Try.ntmps19
  go_wp2_with fail
  all_goals go_ret
  all_goals refine ⟨?_, (Ext.refl w).alloc _⟩
  all_goals
    (have h1 := HS.out
     obtain rfl := H.out
     simp_all [nothB]
     try (rw [int_zero]))

set_option maxRecDepth 100000 in
theorem few16_any {t : Tm} {own : Bool} {G : Nat → Prop} {v : Value} (w : World) (hv : TmV w own G v t) :
    Calls Try.prog 7 #[v] w fun e w' => e = .returned (.bool (decide (0 ≤ fewT t 100000 1000))) ∧ Ext w w' := by
  have HK := Lib.hid (fun w (hv : TmV w own G v t) => few_any t own G v 100000 1000 w hv (by decide) (by decide) (by decide) (by decide))
  obtain ⟨r, hr⟩ : ∃ r, fewT t 100000 1000 = r := ⟨_, rfl⟩
  rw [hr] at HK ⊢
  obtain ⟨k, n, f, s, L⟩ := t
  obtain ⟨so, cap, rfl, hrow⟩ := hv.parts
  clear hv hr
  have HE := Lib.hid ((Ext.refl w).alloc (.cells #[.int .i64 k, .int .i64 n, .float .f64 f, .string s, .slice so L.length cap] 25))
  have HR := Lib.hid (hrow.ext HE.out)
  clear hrow
  go_enter Try.func7, Try.ntmps7
  go_wp2_with (go_at_call 16; (with_reducible refine (HK.out _ (TmV.of_parts HR.out)).mono ?_); rintro e wa ⟨rfl, hEa⟩; have HEa := Lib.hid hEa; clear hEa)
  go_ret
  exact ⟨rfl, HE.out.trans HEa.out⟩

end Go.Proofs.Ytdimmomjildpcaa
