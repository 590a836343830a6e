/- What an exit signal does: kill; the end; nothing: the walks. -/
import Derived.Test.YtdimmomjildpcaaExAct
namespace Go.Proofs.Ytdimmomjildpcaa
open Go.RowKit
attribute [local irreducible] Ext
attribute [local go_sem] run_store_float

/-- "kill", "killed", "normal" -/
def killS : ByteArray := ⟨#[107, 105, 108, 108]⟩
def killedS : ByteArray := ⟨#[107, 105, 108, 108, 101, 100]⟩
def normalS : ByteArray := ⟨#[110, 111, 114, 109, 97, 108]⟩

/-- A block that holds an outcome. -/
def OBox (w : World) (b : Nat) (x k n : Int) (f : Nat) (s : ByteArray) (so : Option Addr) (m cap : Nat) : Prop := w.heap[b]? = some (.cells #[.int .i64 x, .int .i64 k, .int .i64 n, .float .f64 f, .string s, .slice so m cap] 37 (0, 0))
theorem OBox.new (w : World) (x k n : Int) (f : Nat) (s : ByteArray) (so : Option Addr) (m cap : Nat) : OBox (w.alloc (.cells #[.int .i64 x, .int .i64 k, .int .i64 n, .float .f64 f, .string s, .slice so m cap] 37)) w.heap.size x k n f s so m cap := heap_alloc_new w _
section
variable {w w' : World} {b : Nat} {x k n : Int} {f : Nat} {s : ByteArray} {so : Option Addr} {m cap : Nat}
theorem OBox.ext (h : OBox w b x k n f s so m cap) (hE : Ext w w') : OBox w' b x k n f s so m cap := hE.keep h
theorem OBox.keep {F : Nat → Prop} (h : OBox w b x k n f s so m cap) (hM : Mod F w w') (hF : ¬ F b) : OBox w' b x k n f s so m cap := hM.keep h hF
theorem OBox.cells (h : OBox w b x k n f s so m cap) : w.cell? ⟨b, 0, none⟩ = some (.int .i64 x) ∧ w.cell? ⟨b, 1, none⟩ = some (.int .i64 k) ∧ w.cell? ⟨b, 2, none⟩ = some (.int .i64 n) ∧ w.cell? ⟨b, 3, none⟩ = some (.float .f64 f) ∧ w.cell? ⟨b, 4, none⟩ = some (.string s) ∧ w.cell? ⟨b, 5, none⟩ = some (.slice so m cap) :=
  ⟨cell_of_heap h 0, cell_of_heap h 1, cell_of_heap h 2, cell_of_heap h 3, cell_of_heap h 4, cell_of_heap h 5⟩
theorem OBox.free (h : OBox w b x k n f s so m cap) (o : Nat) : w.frozen? ⟨b, o, none⟩ = false := free_of_heap h o
theorem OBox.fill (h : OBox w b x k n f s so m cap) (x' k' n' : Int) (f' : Nat) (s' : ByteArray) (so' : Option Addr) (m' cap' : Nat) :
    OBox ((((((w.setCell ⟨b, 0, none⟩ (.int .i64 x')).setCell ⟨b, 1, none⟩ (.int .i64 k')).setCell ⟨b, 2, none⟩ (.int .i64 n')).setCell ⟨b, 3, none⟩ (.float .f64 f')).setCell ⟨b, 4, none⟩ (.string s')).setCell ⟨b, 5, none⟩ (.slice so' m' cap')) b x' k' n' f' s' so' m' cap' := by
  unfold OBox at h ⊢
  have h0 := heap_set (o := 0) h (.int .i64 x')
  have h1 := heap_set (o := 1) h0 (.int .i64 k')
  have h2 := heap_set (o := 2) h1 (.int .i64 n')
  have h3 := heap_set (o := 3) h2 (.float .f64 f')
  have h4 := heap_set (o := 4) h3 (.string s')
  have h5 := heap_set (o := 5) h4 (.slice so' m' cap')
  simpa using h5
end

set_option maxRecDepth 100000 in
set_option maxHeartbeats 8000000 in
theorem act_kill (fr tt id rf : Int) (trap : Bool) (nm : ByteArray) {n : Int} {f : Nat} {L : List Tm} {own : Bool} {G : Nat → Prop} {so : Option Addr} (cap : Nat) (w : World)
    (hrow : RowIn w own G L so 0) (hc : cntL L + 1 ≤ 100000000) (hok : okT (.mk 3 n f ⟨#[107, 105, 108, 108]⟩ L)) (hz : echk fr tt 5 id rf false nm 3 n f ⟨#[107, 105, 108, 108]⟩ L.length (checkT (.mk 3 n f ⟨#[107, 105, 108, 108]⟩ L)) = 0) :
    Calls Try.prog 12 #[.agg #[.int .i64 fr, .int .i64 tt, .int .i64 5, .int .i64 id, .int .i64 rf, .bool false, .string nm, .int .i64 3, .int .i64 n, .float .f64 f, .string ⟨#[107, 105, 108, 108]⟩, .slice so L.length cap], .bool trap] w fun e w' => e = .returned (.tuple #[.agg #[.int .i64 2, .int .i64 3, .int .i64 0, .float .f64 0, .string ⟨#[107, 105, 108, 108, 101, 100]⟩, .slice none 0 0], .int .i64 0]) ∧ Ext w w' := by
  have HCH := Lib.hid (fun w (hr : RowIn w own G L so 0) => checked_any fr tt id rf false nm cap w hr hc hok hz)
  have HCP : Hid (∀ (w : World), RowIn w own G L so 0 → Calls Try.prog 25 #[.agg #[.int .i64 3, .int .i64 n, .float .f64 f, .string ⟨#[107, 105, 108, 108]⟩, .slice so L.length cap]] w fun e w' => ∃ so2 cap2, e = .returned (.agg #[.int .i64 3, .int .i64 n, .float .f64 f, .string ⟨#[107, 105, 108, 108]⟩, .slice so2 L.length cap2]) ∧ RowIn w' true (fun q => w.heap.size ≤ q) L so2 0 ∧ Ext w w') := Lib.hid (fun w (hr : RowIn w own G L so 0) => pcopy_any (.mk 3 n f ⟨#[107, 105, 108, 108]⟩ L) own G _ w (TmV.of_parts (cap := cap) hr) (by simpa only [cntT] using hc))
  have HA1 : Hid (∀ (w : World) (so : Option Addr) (m cap : Nat), Calls Try.prog 26 #[.agg #[.int .i64 3, .int .i64 n, .float .f64 f, .string ⟨#[107, 105, 108, 108]⟩, .slice so m cap], .string ⟨#[110, 111, 114, 109, 97, 108]⟩] w fun e w' => e = .returned (.bool false) ∧ Ext w w') := Lib.hid (fun w so m cap => isatom_any 3 n f ⟨#[107, 105, 108, 108]⟩ so m cap ⟨#[110, 111, 114, 109, 97, 108]⟩ w)
  have HA2 : Hid (∀ (w : World) (so : Option Addr) (m cap : Nat), Calls Try.prog 26 #[.agg #[.int .i64 3, .int .i64 n, .float .f64 f, .string ⟨#[107, 105, 108, 108]⟩, .slice so m cap], .string ⟨#[107, 105, 108, 108]⟩] w fun e w' => e = .returned (.bool true) ∧ Ext w w') := Lib.hid (fun w so m cap => isatom_any 3 n f ⟨#[107, 105, 108, 108]⟩ so m cap ⟨#[107, 105, 108, 108]⟩ w)
  have hB1 := SBox.new w fr tt 5 id rf false nm 3 n f ⟨#[107, 105, 108, 108]⟩ so L.length cap
  have hB2 := OBox.new (w.alloc (.cells #[.int .i64 fr, .int .i64 tt, .int .i64 5, .int .i64 id, .int .i64 rf, .bool false, .string nm, .int .i64 3, .int .i64 n, .float .f64 f, .string ⟨#[107, 105, 108, 108]⟩, .slice so L.length cap] 27)) 0 0 0 0 ⟨#[]⟩ none 0 0
  rw [World.size_alloc] at hB2
  have hE := ((Ext.refl w).alloc (.cells #[.int .i64 fr, .int .i64 tt, .int .i64 5, .int .i64 id, .int .i64 rf, .bool false, .string nm, .int .i64 3, .int .i64 n, .float .f64 f, .string ⟨#[107, 105, 108, 108]⟩, .slice so L.length cap] 27)).alloc (.cells #[.int .i64 0, .int .i64 0, .int .i64 0, .float .f64 0, .string ⟨#[]⟩, .slice none 0 0] 37)
  have hB1 := hB1.ext ((Ext.refl _).alloc (.cells #[.int .i64 0, .int .i64 0, .int .i64 0, .float .f64 0, .string ⟨#[]⟩, .slice none 0 0] 37))
  obtain ⟨w2, hw2⟩ : ∃ w2, (w.alloc (.cells #[.int .i64 fr, .int .i64 tt, .int .i64 5, .int .i64 id, .int .i64 rf, .bool false, .string nm, .int .i64 3, .int .i64 n, .float .f64 f, .string ⟨#[107, 105, 108, 108]⟩, .slice so L.length cap] 27)).alloc (.cells #[.int .i64 0, .int .i64 0, .int .i64 0, .float .f64 0, .string ⟨#[]⟩, .slice none 0 0] 37) = w2 := ⟨_, rfl⟩
  have hsz : w2.heap.size = w.heap.size + 2 := by rw [← hw2]; simp
  rw [hw2] at hB1 hB2 hE
  have HW := Lib.hid hw2
  have HSB := Lib.hid hB1
  have HOB := Lib.hid hB2
  have HX := Lib.hid hE
  have HR := Lib.hid (hrow.ext hE)
  have HSZ := Lib.hid hsz
  obtain ⟨a0, a1, a2, a3, a4, a5, a6, a7, a8, a9, a10, a11⟩ := hB1.cells
  clear hw2 hE hB1 hB2 hrow hc hok hz hsz
  go_enter Try.func12, Try.ntmps12
  go_upto_region 1 with (fail)
  rw [HW.out]
  go_upto_region 4 with (first
    | (go_at_call 24; (with_reducible refine (HCH.out _ HR.out).mono ?_); rintro e w3 ⟨rfl, hE3⟩; obtain ⟨d0, d1, d2, d3, d4, d5, d6, d7, d8, d9, d10, d11⟩ := (HSB.out.ext hE3).cells; have HX3 := Lib.hid hE3; clear hE3 a0 a1 a2 a3 a4 a5 a6 a7 a8 a9 a10 a11)
    | fail)
  go_upto_region 5 with (first
    | (go_at_call 25; (with_reducible refine (HCP.out _ (HR.out.ext HX3.out)).mono ?_); rintro e w4 ⟨so2, cap2, rfl, hr4, hE4⟩; have HX4 := Lib.hid (HX3.out.trans hE4); have HR4 := Lib.hid hr4; have HE4 := Lib.hid hE4; clear hr4 hE4 d0 d1 d2 d3 d4 d5 d6 d7 d8 d9 d10 d11)
    | fail)
  have hX5 := HX4.out.alloc (.cells #[.int .i64 3, .int .i64 n, .float .f64 f, .string ⟨#[107, 105, 108, 108]⟩, .slice so2 L.length cap2] 25)
  have hR5 := RBox.new w4 3 n f ⟨#[107, 105, 108, 108]⟩ so2 L.length cap2
  have hrow5 := HR4.out.ext ((Ext.refl w4).alloc (.cells #[.int .i64 3, .int .i64 n, .float .f64 f, .string ⟨#[107, 105, 108, 108]⟩, .slice so2 L.length cap2] 25))
  obtain ⟨w5, hw5⟩ : ∃ w5, w4.alloc (.cells #[.int .i64 3, .int .i64 n, .float .f64 f, .string ⟨#[107, 105, 108, 108]⟩, .slice so2 L.length cap2] 25) = w5 := ⟨_, rfl⟩
  obtain ⟨bt, hbt⟩ : ∃ bt, w4.heap.size = bt := ⟨_, rfl⟩
  rw [hw5] at hX5 hR5 hrow5 ⊢
  rw [hbt] at hR5 ⊢
  obtain ⟨t0, t1, t2, t3, t4⟩ := hR5.cells
  have HX5 := Lib.hid hX5
  have HR5 := Lib.hid hR5
  have HROW := Lib.hid hrow5
  have HN5 := Lib.hid (show w.heap.size ≤ w3.heap.size by have := HX3.out.size; have := HSZ.out; omega)
  have HBTN := Lib.hid (show w.heap.size + 2 ≤ bt by rw [← hbt]; have := HX4.out.size; have := HSZ.out; omega)
  have HN6 := Lib.hid (show w.heap.size + 2 ≤ w3.heap.size by have := HX3.out.size; have := HSZ.out; omega)
  clear hw5 hbt hX5 hR5 hrow5
  go_upto_region 7 with (first
    | (go_at_call 26; (with_reducible first | refine (HA1.out _ _ _ _).mono ?_ | refine (HA2.out _ _ _ _).mono ?_); rintro e w6 ⟨rfl, hE6⟩; have hX6 := HX5.out.trans hE6; have HX5 := Lib.hid hX6; clear hX6 t0 t1 t2 t3 t4; obtain ⟨t0, t1, t2, t3, t4⟩ := (HR5.out.ext hE6).cells; have hR6 := HR5.out.ext hE6; have HR5 := Lib.hid hR6; clear hR6; have hrow6 := HROW.out.ext hE6; have HROW := Lib.hid hrow6; clear hrow6 hE6; obtain ⟨d0, d1, d2, d3, d4, d5, d6, d7, d8, d9, d10, d11⟩ := (HSB.out.ext HX5.out).cells)
    | fail)
  clear d0 d1 d2 d3 d4 d5 d6 d7 d8 d9 d10 d11 t0 t1 t2 t3 t4
  go_wp2_with (first
    | (go_at_call 22; (with_reducible refine (patom_any _ _).mono ?_); rintro e w7 ⟨rfl, hE7⟩; have hX7 := HX5.out.trans hE7; have HX7 := Lib.hid hX7; obtain ⟨z0, z1, z2, z3, z4, z5⟩ := (HOB.out.ext hX7).cells; have g0 := (HOB.out.ext hX7).free 0; have g1 := (HOB.out.ext hX7).free 1; have g2 := (HOB.out.ext hX7).free 2; have g3 := (HOB.out.ext hX7).free 3; have g4 := (HOB.out.ext hX7).free 4; have g5 := (HOB.out.ext hX7).free 5; clear hX7 hE7)
    | fail)
  obtain ⟨r0, r1, r2, r3, r4, r5⟩ := ((HOB.out.ext HX7.out).fill 2 3 0 0 ⟨#[107, 105, 108, 108, 101, 100]⟩ none 0 0).cells
  exact bodyPost_ret (v := .tuple #[.agg #[.int .i64 2, .int .i64 3, .int .i64 0, .float .f64 0, .string ⟨#[107, 105, 108, 108, 101, 100]⟩, .slice none 0 0], .int .i64 0]) (by clear z0 z1 z2 z3 z4 z5; simp [results, Try.f12, go_sem, r0, r1, r2, r3, r4, r5]) rfl ⟨rfl, ext_sets (B := w.heap.size + 1) (HX.out.trans HX7.out) (Nat.le_add_right _ _) [(0, .int .i64 2), (1, .int .i64 3), (2, .int .i64 0), (3, .float .f64 0), (4, .string ⟨#[107, 105, 108, 108, 101, 100]⟩), (5, .slice none 0 0)]⟩

set_option maxRecDepth 100000 in
set_option maxHeartbeats 8000000 in
theorem act_nothing (fr tt id rf : Int) (ln : Bool) (nm : ByteArray) {k : Int} {n : Int} {f : Nat} {s : ByteArray} {L : List Tm} {own : Bool} {G : Nat → Prop} {so : Option Addr} (cap : Nat) (w : World)
    (hrow : RowIn w own G L so 0) (hc : cntL L + 1 ≤ 100000000) (hok : okT (.mk k n f s L)) (hz : echk fr tt 5 id rf ln nm k n f s L.length (checkT (.mk k n f s L)) = 0) {xn xk : Bool} (hxn : atomB k s normalS = xn) (hxk : atomB k s killS = xk) (hq : (!ln && xk) = false ∧ (xn && (ln || fr != tt)) = true) :
    Calls Try.prog 12 #[.agg #[.int .i64 fr, .int .i64 tt, .int .i64 5, .int .i64 id, .int .i64 rf, .bool ln, .string nm, .int .i64 k, .int .i64 n, .float .f64 f, .string s, .slice so L.length cap], .bool false] w fun e w' => e = .returned (.tuple #[.agg #[.int .i64 0, .int .i64 0, .int .i64 0, .float .f64 0, .string ⟨#[]⟩, .slice none 0 0], .int .i64 0]) ∧ Ext w w' := by
  have HCH := Lib.hid (fun w (hr : RowIn w own G L so 0) => checked_any fr tt id rf ln nm cap w hr hc hok hz)
  have HCP : Hid (∀ (w : World), RowIn w own G L so 0 → Calls Try.prog 25 #[.agg #[.int .i64 k, .int .i64 n, .float .f64 f, .string s, .slice so L.length cap]] w fun e w' => ∃ so2 cap2, e = .returned (.agg #[.int .i64 k, .int .i64 n, .float .f64 f, .string s, .slice so2 L.length cap2]) ∧ RowIn w' true (fun q => w.heap.size ≤ q) L so2 0 ∧ Ext w w') := Lib.hid (fun w (hr : RowIn w own G L so 0) => pcopy_any (.mk k n f s L) own G _ w (TmV.of_parts (cap := cap) hr) (by simpa only [cntT] using hc))
  have HA1 : Hid (∀ (w : World) (so : Option Addr) (m cap : Nat), Calls Try.prog 26 #[.agg #[.int .i64 k, .int .i64 n, .float .f64 f, .string s, .slice so m cap], .string ⟨#[110, 111, 114, 109, 97, 108]⟩] w fun e w' => e = .returned (.bool xn) ∧ Ext w w') := Lib.hid (fun w so m cap => by rw [← hxn]; exact isatom_any k n f s so m cap ⟨#[110, 111, 114, 109, 97, 108]⟩ w)
  have HA2 : Hid (∀ (w : World) (so : Option Addr) (m cap : Nat), Calls Try.prog 26 #[.agg #[.int .i64 k, .int .i64 n, .float .f64 f, .string s, .slice so m cap], .string ⟨#[107, 105, 108, 108]⟩] w fun e w' => e = .returned (.bool xk) ∧ Ext w w') := Lib.hid (fun w so m cap => by rw [← hxk]; exact isatom_any k n f s so m cap ⟨#[107, 105, 108, 108]⟩ w)
  have HQ := Lib.hid hq
  clear hxn hxk hq
  have hB1 := SBox.new w fr tt 5 id rf ln nm k n f s so L.length cap
  have hB2 := OBox.new (w.alloc (.cells #[.int .i64 fr, .int .i64 tt, .int .i64 5, .int .i64 id, .int .i64 rf, .bool ln, .string nm, .int .i64 k, .int .i64 n, .float .f64 f, .string s, .slice so L.length cap] 27)) 0 0 0 0 ⟨#[]⟩ none 0 0
  rw [World.size_alloc] at hB2
  have hE := ((Ext.refl w).alloc (.cells #[.int .i64 fr, .int .i64 tt, .int .i64 5, .int .i64 id, .int .i64 rf, .bool ln, .string nm, .int .i64 k, .int .i64 n, .float .f64 f, .string s, .slice so L.length cap] 27)).alloc (.cells #[.int .i64 0, .int .i64 0, .int .i64 0, .float .f64 0, .string ⟨#[]⟩, .slice none 0 0] 37)
  have hB1 := hB1.ext ((Ext.refl _).alloc (.cells #[.int .i64 0, .int .i64 0, .int .i64 0, .float .f64 0, .string ⟨#[]⟩, .slice none 0 0] 37))
  obtain ⟨w2, hw2⟩ : ∃ w2, (w.alloc (.cells #[.int .i64 fr, .int .i64 tt, .int .i64 5, .int .i64 id, .int .i64 rf, .bool ln, .string nm, .int .i64 k, .int .i64 n, .float .f64 f, .string s, .slice so L.length cap] 27)).alloc (.cells #[.int .i64 0, .int .i64 0, .int .i64 0, .float .f64 0, .string ⟨#[]⟩, .slice none 0 0] 37) = w2 := ⟨_, rfl⟩
  have hsz : w2.heap.size = w.heap.size + 2 := by rw [← hw2]; simp
  rw [hw2] at hB1 hB2 hE
  have HW := Lib.hid hw2
  have HSB := Lib.hid hB1
  have HOB := Lib.hid hB2
  have HX := Lib.hid hE
  have HR := Lib.hid (hrow.ext hE)
  have HSZ := Lib.hid hsz
  obtain ⟨a0, a1, a2, a3, a4, a5, a6, a7, a8, a9, a10, a11⟩ := hB1.cells
  clear hw2 hE hB1 hB2 hrow hc hok hz hsz
  go_enter Try.func12, Try.ntmps12
  go_upto_region 1 with (fail)
  rw [HW.out]
  go_upto_region 4 with (first
    | (go_at_call 24; (with_reducible refine (HCH.out _ HR.out).mono ?_); rintro e w3 ⟨rfl, hE3⟩; obtain ⟨d0, d1, d2, d3, d4, d5, d6, d7, d8, d9, d10, d11⟩ := (HSB.out.ext hE3).cells; have HX3 := Lib.hid hE3; clear hE3 a0 a1 a2 a3 a4 a5 a6 a7 a8 a9 a10 a11)
    | fail)
  go_upto_region 5 with (first
    | (go_at_call 25; (with_reducible refine (HCP.out _ (HR.out.ext HX3.out)).mono ?_); rintro e w4 ⟨so2, cap2, rfl, hr4, hE4⟩; have HX4 := Lib.hid (HX3.out.trans hE4); have HR4 := Lib.hid hr4; have HE4 := Lib.hid hE4; clear hr4 hE4 d0 d1 d2 d3 d4 d5 d6 d7 d8 d9 d10 d11)
    | fail)
  have hX5 := HX4.out.alloc (.cells #[.int .i64 k, .int .i64 n, .float .f64 f, .string s, .slice so2 L.length cap2] 25)
  have hR5 := RBox.new w4 k n f s so2 L.length cap2
  have hrow5 := HR4.out.ext ((Ext.refl w4).alloc (.cells #[.int .i64 k, .int .i64 n, .float .f64 f, .string s, .slice so2 L.length cap2] 25))
  obtain ⟨w5, hw5⟩ : ∃ w5, w4.alloc (.cells #[.int .i64 k, .int .i64 n, .float .f64 f, .string s, .slice so2 L.length cap2] 25) = w5 := ⟨_, rfl⟩
  obtain ⟨bt, hbt⟩ : ∃ bt, w4.heap.size = bt := ⟨_, rfl⟩
  rw [hw5] at hX5 hR5 hrow5 ⊢
  rw [hbt] at hR5 ⊢
  obtain ⟨t0, t1, t2, t3, t4⟩ := hR5.cells
  have HX5 := Lib.hid hX5
  have HR5 := Lib.hid hR5
  have HROW := Lib.hid hrow5
  have HN5 := Lib.hid (show w.heap.size ≤ w3.heap.size by have := HX3.out.size; have := HSZ.out; omega)
  have HBTN := Lib.hid (show w.heap.size + 2 ≤ bt by rw [← hbt]; have := HX4.out.size; have := HSZ.out; omega)
  have HN6 := Lib.hid (show w.heap.size + 2 ≤ w3.heap.size by have := HX3.out.size; have := HSZ.out; omega)
  clear hw5 hbt hX5 hR5 hrow5
  obtain ⟨q1, q2⟩ := HQ.out
  obtain ⟨fd, hfd⟩ : ∃ fd, (fr != tt) = fd := ⟨_, rfl⟩
  rw [hfd] at q2
  cases ln
  all_goals cases xk
  all_goals cases xn
  all_goals cases fd
  all_goals first
    | (exfalso; first | (cases q1; done) | (cases q2; done))
    | skip
  all_goals clear q1 q2
  all_goals
    go_upto_region 11 with (first
      | (go_at_call 26; (with_reducible first | refine (HA1.out _ _ _ _).mono ?_ | refine (HA2.out _ _ _ _).mono ?_); rintro e w6 ⟨rfl, hE6⟩; have hX6 := HX5.out.trans hE6; have HX5 := Lib.hid hX6; clear hX6 t0 t1 t2 t3 t4; obtain ⟨t0, t1, t2, t3, t4⟩ := (HR5.out.ext hE6).cells; have hR6 := HR5.out.ext hE6; have HR5 := Lib.hid hR6; clear hR6; have hrow6 := HROW.out.ext hE6; have HROW := Lib.hid hrow6; clear hrow6 hE6; obtain ⟨d0, d1, d2, d3, d4, d5, d6, d7, d8, d9, d10, d11⟩ := (HSB.out.ext HX5.out).cells)
      | fail)
  all_goals
    clear d0 d1 d2 d3 d4 d5 d6 d7 d8 d9 d10 d11
    obtain ⟨z0, z1, z2, z3, z4, z5⟩ := (HOB.out.ext HX5.out).cells
    have g0 := (HOB.out.ext HX5.out).free 0
    have g1 := (HOB.out.ext HX5.out).free 1
    have g2 := (HOB.out.ext HX5.out).free 2
    have g3 := (HOB.out.ext HX5.out).free 3
    have g4 := (HOB.out.ext HX5.out).free 4
    have g5 := (HOB.out.ext HX5.out).free 5
    go_wp2_with fail
    obtain ⟨r0, r1, r2, r3, r4, r5⟩ := ((HOB.out.ext HX5.out).fill 0 0 0 0 ⟨#[]⟩ none 0 0).cells
    exact bodyPost_ret (v := .tuple #[.agg #[.int .i64 0, .int .i64 0, .int .i64 0, .float .f64 0, .string ⟨#[]⟩, .slice none 0 0], .int .i64 0]) (by clear z0 z1 z2 z3 z4 z5; simp [results, Try.f12, go_sem, r0, r1, r2, r3, r4, r5]) rfl ⟨rfl, ext_sets (B := w.heap.size + 1) (HX.out.trans HX5.out) (Nat.le_add_right _ _) [(0, .int .i64 0), (1, .int .i64 0), (2, .int .i64 0), (3, .float .f64 0), (4, .string ⟨#[]⟩), (5, .slice none 0 0)]⟩

set_option maxRecDepth 100000 in
set_option maxHeartbeats 8000000 in
theorem act_ends (fr tt id rf : Int) (ln : Bool) (nm : ByteArray) {k : Int} {n : Int} {f : Nat} {s : ByteArray} {L : List Tm} {own : Bool} {G : Nat → Prop} {so : Option Addr} (cap : Nat) (w : World)
    (hrow : RowIn w own G L so 0) (hc : cntL L + 1 ≤ 100000000) (hok : okT (.mk k n f s L)) (hz : echk fr tt 5 id rf ln nm k n f s L.length (checkT (.mk k n f s L)) = 0) {xn xk : Bool} (hxn : atomB k s normalS = xn) (hxk : atomB k s killS = xk) (hq : (!ln && xk) = false ∧ (xn && (ln || fr != tt)) = false) :
    Calls Try.prog 12 #[.agg #[.int .i64 fr, .int .i64 tt, .int .i64 5, .int .i64 id, .int .i64 rf, .bool ln, .string nm, .int .i64 k, .int .i64 n, .float .f64 f, .string s, .slice so L.length cap], .bool false] w fun e w' => ∃ so2 cap2, e = .returned (.tuple #[.agg #[.int .i64 2, .int .i64 k, .int .i64 n, .float .f64 f, .string s, .slice so2 L.length cap2], .int .i64 0]) ∧ RowIn w' true (fun j => w.heap.size ≤ j) L so2 0 ∧ Ext w w' := by
  have HCH := Lib.hid (fun w (hr : RowIn w own G L so 0) => checked_any fr tt id rf ln nm cap w hr hc hok hz)
  have HCP : Hid (∀ (w : World), RowIn w own G L so 0 → Calls Try.prog 25 #[.agg #[.int .i64 k, .int .i64 n, .float .f64 f, .string s, .slice so L.length cap]] w fun e w' => ∃ so2 cap2, e = .returned (.agg #[.int .i64 k, .int .i64 n, .float .f64 f, .string s, .slice so2 L.length cap2]) ∧ RowIn w' true (fun q => w.heap.size ≤ q) L so2 0 ∧ Ext w w') := Lib.hid (fun w (hr : RowIn w own G L so 0) => pcopy_any (.mk k n f s L) own G _ w (TmV.of_parts (cap := cap) hr) (by simpa only [cntT] using hc))
  have HA1 : Hid (∀ (w : World) (so : Option Addr) (m cap : Nat), Calls Try.prog 26 #[.agg #[.int .i64 k, .int .i64 n, .float .f64 f, .string s, .slice so m cap], .string ⟨#[110, 111, 114, 109, 97, 108]⟩] w fun e w' => e = .returned (.bool xn) ∧ Ext w w') := Lib.hid (fun w so m cap => by rw [← hxn]; exact isatom_any k n f s so m cap ⟨#[110, 111, 114, 109, 97, 108]⟩ w)
  have HA2 : Hid (∀ (w : World) (so : Option Addr) (m cap : Nat), Calls Try.prog 26 #[.agg #[.int .i64 k, .int .i64 n, .float .f64 f, .string s, .slice so m cap], .string ⟨#[107, 105, 108, 108]⟩] w fun e w' => e = .returned (.bool xk) ∧ Ext w w') := Lib.hid (fun w so m cap => by rw [← hxk]; exact isatom_any k n f s so m cap ⟨#[107, 105, 108, 108]⟩ w)
  have HQ := Lib.hid hq
  clear hxn hxk hq
  have hB1 := SBox.new w fr tt 5 id rf ln nm k n f s so L.length cap
  have hB2 := OBox.new (w.alloc (.cells #[.int .i64 fr, .int .i64 tt, .int .i64 5, .int .i64 id, .int .i64 rf, .bool ln, .string nm, .int .i64 k, .int .i64 n, .float .f64 f, .string s, .slice so L.length cap] 27)) 0 0 0 0 ⟨#[]⟩ none 0 0
  rw [World.size_alloc] at hB2
  have hE := ((Ext.refl w).alloc (.cells #[.int .i64 fr, .int .i64 tt, .int .i64 5, .int .i64 id, .int .i64 rf, .bool ln, .string nm, .int .i64 k, .int .i64 n, .float .f64 f, .string s, .slice so L.length cap] 27)).alloc (.cells #[.int .i64 0, .int .i64 0, .int .i64 0, .float .f64 0, .string ⟨#[]⟩, .slice none 0 0] 37)
  have hB1 := hB1.ext ((Ext.refl _).alloc (.cells #[.int .i64 0, .int .i64 0, .int .i64 0, .float .f64 0, .string ⟨#[]⟩, .slice none 0 0] 37))
  obtain ⟨w2, hw2⟩ : ∃ w2, (w.alloc (.cells #[.int .i64 fr, .int .i64 tt, .int .i64 5, .int .i64 id, .int .i64 rf, .bool ln, .string nm, .int .i64 k, .int .i64 n, .float .f64 f, .string s, .slice so L.length cap] 27)).alloc (.cells #[.int .i64 0, .int .i64 0, .int .i64 0, .float .f64 0, .string ⟨#[]⟩, .slice none 0 0] 37) = w2 := ⟨_, rfl⟩
  have hsz : w2.heap.size = w.heap.size + 2 := by rw [← hw2]; simp
  rw [hw2] at hB1 hB2 hE
  have HW := Lib.hid hw2
  have HSB := Lib.hid hB1
  have HOB := Lib.hid hB2
  have HX := Lib.hid hE
  have HR := Lib.hid (hrow.ext hE)
  have HSZ := Lib.hid hsz
  obtain ⟨a0, a1, a2, a3, a4, a5, a6, a7, a8, a9, a10, a11⟩ := hB1.cells
  clear hw2 hE hB1 hB2 hrow hc hok hz hsz
  go_enter Try.func12, Try.ntmps12
  go_upto_region 1 with (fail)
  rw [HW.out]
  go_upto_region 4 with (first
    | (go_at_call 24; (with_reducible refine (HCH.out _ HR.out).mono ?_); rintro e w3 ⟨rfl, hE3⟩; obtain ⟨d0, d1, d2, d3, d4, d5, d6, d7, d8, d9, d10, d11⟩ := (HSB.out.ext hE3).cells; have HX3 := Lib.hid hE3; clear hE3 a0 a1 a2 a3 a4 a5 a6 a7 a8 a9 a10 a11)
    | fail)
  go_upto_region 5 with (first
    | (go_at_call 25; (with_reducible refine (HCP.out _ (HR.out.ext HX3.out)).mono ?_); rintro e w4 ⟨so2, cap2, rfl, hr4, hE4⟩; have HX4 := Lib.hid (HX3.out.trans hE4); have HR4 := Lib.hid hr4; have HE4 := Lib.hid hE4; clear hr4 hE4 d0 d1 d2 d3 d4 d5 d6 d7 d8 d9 d10 d11)
    | fail)
  have hX5 := HX4.out.alloc (.cells #[.int .i64 k, .int .i64 n, .float .f64 f, .string s, .slice so2 L.length cap2] 25)
  have hR5 := RBox.new w4 k n f s so2 L.length cap2
  have hrow5 := HR4.out.ext ((Ext.refl w4).alloc (.cells #[.int .i64 k, .int .i64 n, .float .f64 f, .string s, .slice so2 L.length cap2] 25))
  obtain ⟨w5, hw5⟩ : ∃ w5, w4.alloc (.cells #[.int .i64 k, .int .i64 n, .float .f64 f, .string s, .slice so2 L.length cap2] 25) = w5 := ⟨_, rfl⟩
  obtain ⟨bt, hbt⟩ : ∃ bt, w4.heap.size = bt := ⟨_, rfl⟩
  rw [hw5] at hX5 hR5 hrow5 ⊢
  rw [hbt] at hR5 ⊢
  obtain ⟨t0, t1, t2, t3, t4⟩ := hR5.cells
  have HX5 := Lib.hid hX5
  have HR5 := Lib.hid hR5
  have HROW := Lib.hid hrow5
  have HN5 := Lib.hid (show w.heap.size ≤ w3.heap.size by have := HX3.out.size; have := HSZ.out; omega)
  have HBTN := Lib.hid (show w.heap.size + 2 ≤ bt by rw [← hbt]; have := HX4.out.size; have := HSZ.out; omega)
  have HN6 := Lib.hid (show w.heap.size + 2 ≤ w3.heap.size by have := HX3.out.size; have := HSZ.out; omega)
  clear hw5 hbt hX5 hR5 hrow5
  obtain ⟨q1, q2⟩ := HQ.out
  obtain ⟨fd, hfd⟩ : ∃ fd, (fr != tt) = fd := ⟨_, rfl⟩
  rw [hfd] at q2
  cases ln
  all_goals cases xk
  all_goals cases xn
  all_goals cases fd
  all_goals first
    | (exfalso; first | (cases q1; done) | (cases q2; done))
    | skip
  all_goals clear q1 q2
  all_goals
    go_upto_region 12 with (first
      | (go_at_call 26; (with_reducible first | refine (HA1.out _ _ _ _).mono ?_ | refine (HA2.out _ _ _ _).mono ?_); rintro e w6 ⟨rfl, hE6⟩; have hX6 := HX5.out.trans hE6; have HX5 := Lib.hid hX6; clear hX6 t0 t1 t2 t3 t4; obtain ⟨t0, t1, t2, t3, t4⟩ := (HR5.out.ext hE6).cells; have hR6 := HR5.out.ext hE6; have HR5 := Lib.hid hR6; clear hR6; have hrow6 := HROW.out.ext hE6; have HROW := Lib.hid hrow6; clear hrow6 hE6; obtain ⟨d0, d1, d2, d3, d4, d5, d6, d7, d8, d9, d10, d11⟩ := (HSB.out.ext HX5.out).cells)
      | fail)
  all_goals
    clear d0 d1 d2 d3 d4 d5 d6 d7 d8 d9 d10 d11
    obtain ⟨z0, z1, z2, z3, z4, z5⟩ := (HOB.out.ext HX5.out).cells
    have g0 := (HOB.out.ext HX5.out).free 0
    have g1 := (HOB.out.ext HX5.out).free 1
    have g2 := (HOB.out.ext HX5.out).free 2
    have g3 := (HOB.out.ext HX5.out).free 3
    have g4 := (HOB.out.ext HX5.out).free 4
    have g5 := (HOB.out.ext HX5.out).free 5
    go_wp2_with fail
    obtain ⟨r0, r1, r2, r3, r4, r5⟩ := ((HOB.out.ext HX5.out).fill 2 k n f s so2 L.length cap2).cells
    exact bodyPost_ret (v := .tuple #[.agg #[.int .i64 2, .int .i64 k, .int .i64 n, .float .f64 f, .string s, .slice so2 L.length cap2], .int .i64 0]) (by clear z0 z1 z2 z3 z4 z5; simp [results, Try.f12, go_sem, r0, r1, r2, r3, r4, r5]) rfl ⟨so2, cap2, rfl, (HROW.out.keep (sets_mod (F := fun j => j = w.heap.size + 1) (B := w.heap.size + 1) (.inl rfl) [(0, .int .i64 2), (1, .int .i64 k), (2, .int .i64 n), (3, .float .f64 f), (4, .string s), (5, .slice so2 L.length cap2)] (Mod.refl _ _)) (fun j hj e => by have := HX3.out.size; have := HSZ.out; omega)).mono (fun j hj => by have := HN5.out; omega), ext_sets (B := w.heap.size + 1) (HX.out.trans HX5.out) (Nat.le_add_right _ _) [(0, .int .i64 2), (1, .int .i64 k), (2, .int .i64 n), (3, .float .f64 f), (4, .string s), (5, .slice so2 L.length cap2)]⟩

end Go.Proofs.Ytdimmomjildpcaa
