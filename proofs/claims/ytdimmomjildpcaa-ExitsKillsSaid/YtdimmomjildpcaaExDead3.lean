/- What the dead answer: the program, one. -/
import Derived.Test.YtdimmomjildpcaaExDead2
namespace Go.Proofs.Ytdimmomjildpcaa
open Go.RowKit
attribute [local irreducible] Ext
attribute [local go_sem] run_store_float
attribute [local go_sem] as_ll as_lu as_lx as_ul as_uu as_ux as_xl as_xu as_xx as_nl as_nu as_nx

set_option maxRecDepth 100000 in
set_option maxHeartbeats 4000000 in
theorem pdead2 (fr tt id rf : Int) (ln : Bool) (nm : ByteArray) (k n : Int) (f : Nat) (s : ByteArray) (so : Option Addr) (m cap : Nat) (h0 : fr ≠ 0) (w : World) :
    Calls Try.prog 9 #[.agg #[.int .i64 fr, .int .i64 tt, .int .i64 2, .int .i64 id, .int .i64 rf, .bool ln, .string nm, .int .i64 k, .int .i64 n, .float .f64 f, .string s, .slice so m cap]] w fun e w' => e = .returned (.tuple #[.agg #[.int .i64 tt, .int .i64 fr, .int .i64 5, .int .i64 0, .int .i64 0, .bool true, .string ⟨#[]⟩, .int .i64 3, .int .i64 0, .float .f64 0, .string ⟨#[110, 111, 112, 114, 111, 99]⟩, .slice none 0 0], .bool true]) ∧ Ext w w' := by
  have HSD : Hid (∀ w : World, Calls Try.prog 21 #[.agg #[.int .i64 fr, .int .i64 tt, .int .i64 2, .int .i64 id, .int .i64 rf, .bool ln, .string nm, .int .i64 k, .int .i64 n, .float .f64 f, .string s, .slice so m cap]] w fun e w' => e = .returned (.iface 50 (.agg #[])) ∧ Ext w w') := Lib.hid (fun w => said_any fr tt 2 id rf ln nm k n f s so m cap w)
  have HF := Lib.hid h0
  have hB1 := SBox.new w fr tt 2 id rf ln nm k n f s so m cap
  have hB2 := SBox.new (w.alloc (.cells #[.int .i64 fr, .int .i64 tt, .int .i64 2, .int .i64 id, .int .i64 rf, .bool ln, .string nm, .int .i64 k, .int .i64 n, .float .f64 f, .string s, .slice so m cap] 27)) 0 0 0 0 0 false ⟨#[]⟩ 0 0 0 ⟨#[]⟩ none 0 0
  have hB3 := SBox.new ((w.alloc (.cells #[.int .i64 fr, .int .i64 tt, .int .i64 2, .int .i64 id, .int .i64 rf, .bool ln, .string nm, .int .i64 k, .int .i64 n, .float .f64 f, .string s, .slice so m cap] 27)).alloc (.cells #[.int .i64 0, .int .i64 0, .int .i64 0, .int .i64 0, .int .i64 0, .bool false, .string ⟨#[]⟩, .int .i64 0, .int .i64 0, .float .f64 0, .string ⟨#[]⟩, .slice none 0 0] 27)) tt fr 0 0 0 false ⟨#[]⟩ 0 0 0 ⟨#[]⟩ none 0 0
  rw [World.size_alloc] at hB2
  rw [World.size_alloc, World.size_alloc] at hB3
  have hE := (((Ext.refl w).alloc (.cells #[.int .i64 fr, .int .i64 tt, .int .i64 2, .int .i64 id, .int .i64 rf, .bool ln, .string nm, .int .i64 k, .int .i64 n, .float .f64 f, .string s, .slice so m cap] 27)).alloc (.cells #[.int .i64 0, .int .i64 0, .int .i64 0, .int .i64 0, .int .i64 0, .bool false, .string ⟨#[]⟩, .int .i64 0, .int .i64 0, .float .f64 0, .string ⟨#[]⟩, .slice none 0 0] 27)).alloc (.cells #[.int .i64 tt, .int .i64 fr, .int .i64 0, .int .i64 0, .int .i64 0, .bool false, .string ⟨#[]⟩, .int .i64 0, .int .i64 0, .float .f64 0, .string ⟨#[]⟩, .slice none 0 0] 27)
  have hB1 := (hB1.ext ((Ext.refl _).alloc (.cells #[.int .i64 0, .int .i64 0, .int .i64 0, .int .i64 0, .int .i64 0, .bool false, .string ⟨#[]⟩, .int .i64 0, .int .i64 0, .float .f64 0, .string ⟨#[]⟩, .slice none 0 0] 27))).ext ((Ext.refl _).alloc (.cells #[.int .i64 tt, .int .i64 fr, .int .i64 0, .int .i64 0, .int .i64 0, .bool false, .string ⟨#[]⟩, .int .i64 0, .int .i64 0, .float .f64 0, .string ⟨#[]⟩, .slice none 0 0] 27))
  have hB2 := hB2.ext ((Ext.refl _).alloc (.cells #[.int .i64 tt, .int .i64 fr, .int .i64 0, .int .i64 0, .int .i64 0, .bool false, .string ⟨#[]⟩, .int .i64 0, .int .i64 0, .float .f64 0, .string ⟨#[]⟩, .slice none 0 0] 27))
  obtain ⟨w2, hw2⟩ : ∃ w2, (((w.alloc (.cells #[.int .i64 fr, .int .i64 tt, .int .i64 2, .int .i64 id, .int .i64 rf, .bool ln, .string nm, .int .i64 k, .int .i64 n, .float .f64 f, .string s, .slice so m cap] 27)).alloc (.cells #[.int .i64 0, .int .i64 0, .int .i64 0, .int .i64 0, .int .i64 0, .bool false, .string ⟨#[]⟩, .int .i64 0, .int .i64 0, .float .f64 0, .string ⟨#[]⟩, .slice none 0 0] 27)).alloc (.cells #[.int .i64 tt, .int .i64 fr, .int .i64 0, .int .i64 0, .int .i64 0, .bool false, .string ⟨#[]⟩, .int .i64 0, .int .i64 0, .float .f64 0, .string ⟨#[]⟩, .slice none 0 0] 27)) = w2 := ⟨_, rfl⟩
  rw [hw2] at hB1 hB2 hB3 hE
  have HW := Lib.hid hw2
  have HSB := Lib.hid hB1
  have HZB := Lib.hid hB2
  have HOB := Lib.hid hB3
  have HX := Lib.hid hE
  clear hw2 hE
  obtain ⟨a0, a1, a2, a3, a4, a5, a6, a7, a8, a9, a10, a11⟩ := hB1.cells
  clear hB1 hB2 hB3 h0
  go_enter Try.func9, Try.ntmps9
  go_upto_region 2 with (fail)
  rw [HW.out]
  go_upto_region 7 with (first
    | (go_at_call 21; (with_reducible refine (HSD.out _).mono ?_); rintro e w3 ⟨rfl, hE3⟩; have HX3 := Lib.hid hE3; clear hE3 a0 a1 a2 a3 a4 a5 a6 a7 a8 a9 a10 a11)
    | fail)
  have hX4 := HX3.out.alloc (.cells #[] 50)
  obtain ⟨w4, hw4⟩ : ∃ w4, w3.alloc (.cells #[] 50) = w4 := ⟨_, rfl⟩
  rw [hw4] at hX4 ⊢
  have HX4 := Lib.hid hX4
  clear hX4 hw4
  have HOBS := HOB
  go_upto_region 14 with (first
    | (go_at_call 22; (with_reducible refine (patom_any _ _).mono ?_); rintro e w5 ⟨rfl, hE5⟩; have HX5 := Lib.hid (HX4.out.trans hE5); clear hE5; have f2 := (HOBS.out.ext HX5.out).free 2; have f5 := (HOBS.out.ext HX5.out).free 5; have f7 := (HOBS.out.ext HX5.out).free 7; have f8 := (HOBS.out.ext HX5.out).free 8; have f9 := (HOBS.out.ext HX5.out).free 9; have f10 := (HOBS.out.ext HX5.out).free 10; have f11 := (HOBS.out.ext HX5.out).free 11; obtain ⟨q0, q1, q2, q3, q4, q5, q6, q7, q8, q9, q10, q11⟩ := (HOBS.out.ext HX5.out).cells)
    | fail)
  clear f2 f5 f7 f8 f9 f10 f11 q0 q1 q2 q3 q4 q5 q6 q7 q8 q9 q10 q11
  have hO := (HOB.out.ext HX5.out).to_link
  have hM : Mod (fun j => j = w.heap.size + 1 + 1) w5 (sets w5 (w.heap.size + 1 + 1) [(2, .int .i64 5), (5, .bool true), (7, .int .i64 3), (8, .int .i64 0), (9, .float .f64 0), (10, .string ⟨#[110, 111, 112, 114, 111, 99]⟩), (11, .slice none 0 0)]) := sets_mod (F := fun j => j = w.heap.size + 1 + 1) (.inl rfl) _ (Mod.refl _ w5)
  have hXX := ext_sets (HX.out.trans HX5.out) (show w.heap.size ≤ w.heap.size + 1 + 1 by omega) [(2, .int .i64 5), (5, .bool true), (7, .int .i64 3), (8, .int .i64 0), (9, .float .f64 0), (10, .string ⟨#[110, 111, 112, 114, 111, 99]⟩), (11, .slice none 0 0)]
  have hS := (HSB.out.ext HX5.out).keep hM (by omega)
  have hZ := (HZB.out.ext HX5.out).keep hM (by omega)
  simp only [sets] at hS hZ hXX
  generalize hWW : (((((((w5.setCell ⟨w.heap.size + 1 + 1, 2, none⟩ (.int .i64 5)).setCell ⟨w.heap.size + 1 + 1, 5, none⟩ (.bool true)).setCell ⟨w.heap.size + 1 + 1, 7, none⟩ (.int .i64 3)).setCell ⟨w.heap.size + 1 + 1, 8, none⟩ (.int .i64 0)).setCell ⟨w.heap.size + 1 + 1, 9, none⟩ (.float .f64 0)).setCell ⟨w.heap.size + 1 + 1, 10, none⟩ (.string ⟨#[110, 111, 112, 114, 111, 99]⟩)).setCell ⟨w.heap.size + 1 + 1, 11, none⟩ (.slice none 0 0)) = W at hO hS hZ hXX ⊢
  clear hWW hM
  have HOB := Lib.hid hO
  have HSB := Lib.hid hS
  have HZB := Lib.hid hZ
  have HX := Lib.hid hXX
  clear hO hS hZ hXX
  have c0 : (fr == 0) = false := by have := HF.out; simpa using this
  obtain ⟨o0, o1, o2, o3, o4, o5, o6, o7, o8, o9, o10, o11⟩ := HOB.out.cells
  obtain ⟨b0, _, _, _, _, _, _, _, _, _, _, _⟩ := HSB.out.cells
  obtain ⟨z0, z1, z2, z3, z4, z5, z6, z7, z8, z9, z10, z11⟩ := HZB.out.cells
  have g0 := HZB.out.free 0
  have g1 := HZB.out.free 1
  have g2 := HZB.out.free 2
  have g3 := HZB.out.free 3
  have g4 := HZB.out.free 4
  have g5 := HZB.out.free 5
  have g6 := HZB.out.free 6
  have g7 := HZB.out.free 7
  have g8 := HZB.out.free 8
  have g9 := HZB.out.free 9
  have g10 := HZB.out.free 10
  have g11 := HZB.out.free 11
  have HEND := Lib.hid (ext_sets (B := (w.heap.size + 1)) HX.out (Nat.le_add_right _ _) [(0, .int .i64 tt), (1, .int .i64 fr), (2, .int .i64 5), (3, .int .i64 0), (4, .int .i64 0), (5, .bool true), (6, .string ⟨#[]⟩), (7, .int .i64 3), (8, .int .i64 0), (9, .float .f64 0), (10, .string ⟨#[110, 111, 112, 114, 111, 99]⟩), (11, .slice none 0 0)])
  go_wp2_with fail
  obtain ⟨r0, r1, r2, r3, r4, r5, r6, r7, r8, r9, r10, r11⟩ := (HZB.out.fill tt fr 5 0 0 true ⟨#[]⟩ 3 0 0 ⟨#[110, 111, 112, 114, 111, 99]⟩ none 0 0).cells
  exact bodyPost_ret (v := .tuple #[.agg #[.int .i64 tt, .int .i64 fr, .int .i64 5, .int .i64 0, .int .i64 0, .bool true, .string ⟨#[]⟩, .int .i64 3, .int .i64 0, .float .f64 0, .string ⟨#[110, 111, 112, 114, 111, 99]⟩, .slice none 0 0], .bool true]) (by clear z0 z1 z2 z3 z4 z5 z6 z7 z8 z9 z10 z11; simp [results, Try.f9, go_sem, r0, r1, r2, r3, r4, r5, r6, r7, r8, r9, r10, r11]) rfl ⟨rfl, HEND.out⟩

set_option maxRecDepth 100000 in
set_option maxHeartbeats 4000000 in
theorem pdead3 (fr tt id rf : Int) (ln : Bool) (nm : ByteArray) (k n : Int) (f : Nat) (s : ByteArray) (so : Option Addr) (m cap : Nat) (h0 : fr ≠ 0) (w : World) :
    Calls Try.prog 9 #[.agg #[.int .i64 fr, .int .i64 tt, .int .i64 3, .int .i64 id, .int .i64 rf, .bool ln, .string nm, .int .i64 k, .int .i64 n, .float .f64 f, .string s, .slice so m cap]] w fun e w' => e = .returned (.tuple #[.agg #[.int .i64 tt, .int .i64 fr, .int .i64 4, .int .i64 id, .int .i64 0, .bool false, .string ⟨#[]⟩, .int .i64 0, .int .i64 0, .float .f64 0, .string ⟨#[]⟩, .slice none 0 0], .bool true]) ∧ Ext w w' := by
  have HSD : Hid (∀ w : World, Calls Try.prog 21 #[.agg #[.int .i64 fr, .int .i64 tt, .int .i64 3, .int .i64 id, .int .i64 rf, .bool ln, .string nm, .int .i64 k, .int .i64 n, .float .f64 f, .string s, .slice so m cap]] w fun e w' => e = .returned (.iface 52 (.agg #[.int .i64 id])) ∧ Ext w w') := Lib.hid (fun w => said_any fr tt 3 id rf ln nm k n f s so m cap w)
  have HF := Lib.hid h0
  have hB1 := SBox.new w fr tt 3 id rf ln nm k n f s so m cap
  have hB2 := SBox.new (w.alloc (.cells #[.int .i64 fr, .int .i64 tt, .int .i64 3, .int .i64 id, .int .i64 rf, .bool ln, .string nm, .int .i64 k, .int .i64 n, .float .f64 f, .string s, .slice so m cap] 27)) 0 0 0 0 0 false ⟨#[]⟩ 0 0 0 ⟨#[]⟩ none 0 0
  have hB3 := SBox.new ((w.alloc (.cells #[.int .i64 fr, .int .i64 tt, .int .i64 3, .int .i64 id, .int .i64 rf, .bool ln, .string nm, .int .i64 k, .int .i64 n, .float .f64 f, .string s, .slice so m cap] 27)).alloc (.cells #[.int .i64 0, .int .i64 0, .int .i64 0, .int .i64 0, .int .i64 0, .bool false, .string ⟨#[]⟩, .int .i64 0, .int .i64 0, .float .f64 0, .string ⟨#[]⟩, .slice none 0 0] 27)) tt fr 0 0 0 false ⟨#[]⟩ 0 0 0 ⟨#[]⟩ none 0 0
  rw [World.size_alloc] at hB2
  rw [World.size_alloc, World.size_alloc] at hB3
  have hE := (((Ext.refl w).alloc (.cells #[.int .i64 fr, .int .i64 tt, .int .i64 3, .int .i64 id, .int .i64 rf, .bool ln, .string nm, .int .i64 k, .int .i64 n, .float .f64 f, .string s, .slice so m cap] 27)).alloc (.cells #[.int .i64 0, .int .i64 0, .int .i64 0, .int .i64 0, .int .i64 0, .bool false, .string ⟨#[]⟩, .int .i64 0, .int .i64 0, .float .f64 0, .string ⟨#[]⟩, .slice none 0 0] 27)).alloc (.cells #[.int .i64 tt, .int .i64 fr, .int .i64 0, .int .i64 0, .int .i64 0, .bool false, .string ⟨#[]⟩, .int .i64 0, .int .i64 0, .float .f64 0, .string ⟨#[]⟩, .slice none 0 0] 27)
  have hB1 := (hB1.ext ((Ext.refl _).alloc (.cells #[.int .i64 0, .int .i64 0, .int .i64 0, .int .i64 0, .int .i64 0, .bool false, .string ⟨#[]⟩, .int .i64 0, .int .i64 0, .float .f64 0, .string ⟨#[]⟩, .slice none 0 0] 27))).ext ((Ext.refl _).alloc (.cells #[.int .i64 tt, .int .i64 fr, .int .i64 0, .int .i64 0, .int .i64 0, .bool false, .string ⟨#[]⟩, .int .i64 0, .int .i64 0, .float .f64 0, .string ⟨#[]⟩, .slice none 0 0] 27))
  have hB2 := hB2.ext ((Ext.refl _).alloc (.cells #[.int .i64 tt, .int .i64 fr, .int .i64 0, .int .i64 0, .int .i64 0, .bool false, .string ⟨#[]⟩, .int .i64 0, .int .i64 0, .float .f64 0, .string ⟨#[]⟩, .slice none 0 0] 27))
  obtain ⟨w2, hw2⟩ : ∃ w2, (((w.alloc (.cells #[.int .i64 fr, .int .i64 tt, .int .i64 3, .int .i64 id, .int .i64 rf, .bool ln, .string nm, .int .i64 k, .int .i64 n, .float .f64 f, .string s, .slice so m cap] 27)).alloc (.cells #[.int .i64 0, .int .i64 0, .int .i64 0, .int .i64 0, .int .i64 0, .bool false, .string ⟨#[]⟩, .int .i64 0, .int .i64 0, .float .f64 0, .string ⟨#[]⟩, .slice none 0 0] 27)).alloc (.cells #[.int .i64 tt, .int .i64 fr, .int .i64 0, .int .i64 0, .int .i64 0, .bool false, .string ⟨#[]⟩, .int .i64 0, .int .i64 0, .float .f64 0, .string ⟨#[]⟩, .slice none 0 0] 27)) = w2 := ⟨_, rfl⟩
  rw [hw2] at hB1 hB2 hB3 hE
  have HW := Lib.hid hw2
  have HSB := Lib.hid hB1
  have HZB := Lib.hid hB2
  have HOB := Lib.hid hB3
  have HX := Lib.hid hE
  clear hw2 hE
  obtain ⟨a0, a1, a2, a3, a4, a5, a6, a7, a8, a9, a10, a11⟩ := hB1.cells
  clear hB1 hB2 hB3 h0
  go_enter Try.func9, Try.ntmps9
  go_upto_region 2 with (fail)
  rw [HW.out]
  go_upto_region 10 with (first
    | (go_at_call 21; (with_reducible refine (HSD.out _).mono ?_); rintro e w3 ⟨rfl, hE3⟩; have HX3 := Lib.hid hE3; clear hE3 a0 a1 a2 a3 a4 a5 a6 a7 a8 a9 a10 a11)
    | fail)
  have hX4 := HX3.out.alloc (.cells #[.int .i64 id] 52)
  have hq : (w3.alloc (.cells #[.int .i64 id] 52)).cell? ⟨w3.heap.size, 0, none⟩ = some (.int .i64 id) := cell_of_heap (heap_alloc_new w3 _) 0
  obtain ⟨w5, hw4⟩ : ∃ w4, w3.alloc (.cells #[.int .i64 id] 52) = w4 := ⟨_, rfl⟩
  rw [hw4] at hX4 hq ⊢
  have HX5 := Lib.hid hX4
  clear hX4 hw4
  have f2 := (HOB.out.ext HX5.out).free 2
  have f3 := (HOB.out.ext HX5.out).free 3
  obtain ⟨_, _, q2, q3, _, _, _, _, _, _, _, _⟩ := (HOB.out.ext HX5.out).cells
  go_region_with (first | fail)
  all_goals
    clear f2 f3 q2 q3 hq
    have hO := (HOB.out.ext HX5.out).to_ack (id := id)
    have hM : Mod (fun j => j = w.heap.size + 1 + 1) w5 (sets w5 (w.heap.size + 1 + 1) [(2, .int .i64 4), (3, .int .i64 id)]) := sets_mod (F := fun j => j = w.heap.size + 1 + 1) (.inl rfl) _ (Mod.refl _ w5)
    have hXX := ext_sets (HX.out.trans HX5.out) (show w.heap.size ≤ w.heap.size + 1 + 1 by omega) [(2, .int .i64 4), (3, .int .i64 id)]
    have hS := (HSB.out.ext HX5.out).keep hM (by omega)
    have hZ := (HZB.out.ext HX5.out).keep hM (by omega)
    simp only [sets] at hS hZ hXX
    have hO := hO.ext (Ext.drew (Ext.refl _))
    have hS := hS.ext (Ext.drew (Ext.refl _))
    have hZ := hZ.ext (Ext.drew (Ext.refl _))
    have hXX := hXX.drew
    generalize hWW : ((w5.setCell ⟨w.heap.size + 1 + 1, 2, none⟩ (.int .i64 4)).setCell ⟨w.heap.size + 1 + 1, 3, none⟩ (.int .i64 id)).drew = W at hO hS hZ hXX ⊢
    clear hWW hM
    have HOB := Lib.hid hO
    have HSB := Lib.hid hS
    have HZB := Lib.hid hZ
    have HX := Lib.hid hXX
    clear hO hS hZ hXX
    have c0 : (fr == 0) = false := by have := HF.out; simpa using this
    obtain ⟨o0, o1, o2, o3, o4, o5, o6, o7, o8, o9, o10, o11⟩ := HOB.out.cells
    obtain ⟨b0, _, _, _, _, _, _, _, _, _, _, _⟩ := HSB.out.cells
    obtain ⟨z0, z1, z2, z3, z4, z5, z6, z7, z8, z9, z10, z11⟩ := HZB.out.cells
    have g0 := HZB.out.free 0
    have g1 := HZB.out.free 1
    have g2 := HZB.out.free 2
    have g3 := HZB.out.free 3
    have g4 := HZB.out.free 4
    have g5 := HZB.out.free 5
    have g6 := HZB.out.free 6
    have g7 := HZB.out.free 7
    have g8 := HZB.out.free 8
    have g9 := HZB.out.free 9
    have g10 := HZB.out.free 10
    have g11 := HZB.out.free 11
    have HEND := Lib.hid (ext_sets (B := (w.heap.size + 1)) HX.out (Nat.le_add_right _ _) [(0, .int .i64 tt), (1, .int .i64 fr), (2, .int .i64 4), (3, .int .i64 id), (4, .int .i64 0), (5, .bool false), (6, .string ⟨#[]⟩), (7, .int .i64 0), (8, .int .i64 0), (9, .float .f64 0), (10, .string ⟨#[]⟩), (11, .slice none 0 0)])
    go_wp2_with fail
    obtain ⟨r0, r1, r2, r3, r4, r5, r6, r7, r8, r9, r10, r11⟩ := (HZB.out.fill tt fr 4 id 0 false ⟨#[]⟩ 0 0 0 ⟨#[]⟩ none 0 0).cells
    exact bodyPost_ret (v := .tuple #[.agg #[.int .i64 tt, .int .i64 fr, .int .i64 4, .int .i64 id, .int .i64 0, .bool false, .string ⟨#[]⟩, .int .i64 0, .int .i64 0, .float .f64 0, .string ⟨#[]⟩, .slice none 0 0], .bool true]) (by clear z0 z1 z2 z3 z4 z5 z6 z7 z8 z9 z10 z11; simp [results, Try.f9, go_sem, r0, r1, r2, r3, r4, r5, r6, r7, r8, r9, r10, r11]) rfl ⟨rfl, HEND.out⟩

set_option maxRecDepth 100000 in
set_option maxHeartbeats 4000000 in
theorem pdead2z (fr tt id rf : Int) (ln : Bool) (nm : ByteArray) (k n : Int) (f : Nat) (s : ByteArray) (so : Option Addr) (m cap : Nat) (h0 : fr = 0) (w : World) :
    Calls Try.prog 9 #[.agg #[.int .i64 fr, .int .i64 tt, .int .i64 2, .int .i64 id, .int .i64 rf, .bool ln, .string nm, .int .i64 k, .int .i64 n, .float .f64 f, .string s, .slice so m cap]] w fun e w' => e = .returned (.tuple #[.agg #[.int .i64 0, .int .i64 0, .int .i64 0, .int .i64 0, .int .i64 0, .bool false, .string ⟨#[]⟩, .int .i64 0, .int .i64 0, .float .f64 0, .string ⟨#[]⟩, .slice none 0 0], .bool false]) ∧ Ext w w' := by
  have HSD : Hid (∀ w : World, Calls Try.prog 21 #[.agg #[.int .i64 fr, .int .i64 tt, .int .i64 2, .int .i64 id, .int .i64 rf, .bool ln, .string nm, .int .i64 k, .int .i64 n, .float .f64 f, .string s, .slice so m cap]] w fun e w' => e = .returned (.iface 50 (.agg #[])) ∧ Ext w w') := Lib.hid (fun w => said_any fr tt 2 id rf ln nm k n f s so m cap w)
  have HF := Lib.hid h0
  have hB1 := SBox.new w fr tt 2 id rf ln nm k n f s so m cap
  have hB2 := SBox.new (w.alloc (.cells #[.int .i64 fr, .int .i64 tt, .int .i64 2, .int .i64 id, .int .i64 rf, .bool ln, .string nm, .int .i64 k, .int .i64 n, .float .f64 f, .string s, .slice so m cap] 27)) 0 0 0 0 0 false ⟨#[]⟩ 0 0 0 ⟨#[]⟩ none 0 0
  have hB3 := SBox.new ((w.alloc (.cells #[.int .i64 fr, .int .i64 tt, .int .i64 2, .int .i64 id, .int .i64 rf, .bool ln, .string nm, .int .i64 k, .int .i64 n, .float .f64 f, .string s, .slice so m cap] 27)).alloc (.cells #[.int .i64 0, .int .i64 0, .int .i64 0, .int .i64 0, .int .i64 0, .bool false, .string ⟨#[]⟩, .int .i64 0, .int .i64 0, .float .f64 0, .string ⟨#[]⟩, .slice none 0 0] 27)) tt fr 0 0 0 false ⟨#[]⟩ 0 0 0 ⟨#[]⟩ none 0 0
  rw [World.size_alloc] at hB2
  rw [World.size_alloc, World.size_alloc] at hB3
  have hE := (((Ext.refl w).alloc (.cells #[.int .i64 fr, .int .i64 tt, .int .i64 2, .int .i64 id, .int .i64 rf, .bool ln, .string nm, .int .i64 k, .int .i64 n, .float .f64 f, .string s, .slice so m cap] 27)).alloc (.cells #[.int .i64 0, .int .i64 0, .int .i64 0, .int .i64 0, .int .i64 0, .bool false, .string ⟨#[]⟩, .int .i64 0, .int .i64 0, .float .f64 0, .string ⟨#[]⟩, .slice none 0 0] 27)).alloc (.cells #[.int .i64 tt, .int .i64 fr, .int .i64 0, .int .i64 0, .int .i64 0, .bool false, .string ⟨#[]⟩, .int .i64 0, .int .i64 0, .float .f64 0, .string ⟨#[]⟩, .slice none 0 0] 27)
  have hB1 := (hB1.ext ((Ext.refl _).alloc (.cells #[.int .i64 0, .int .i64 0, .int .i64 0, .int .i64 0, .int .i64 0, .bool false, .string ⟨#[]⟩, .int .i64 0, .int .i64 0, .float .f64 0, .string ⟨#[]⟩, .slice none 0 0] 27))).ext ((Ext.refl _).alloc (.cells #[.int .i64 tt, .int .i64 fr, .int .i64 0, .int .i64 0, .int .i64 0, .bool false, .string ⟨#[]⟩, .int .i64 0, .int .i64 0, .float .f64 0, .string ⟨#[]⟩, .slice none 0 0] 27))
  have hB2 := hB2.ext ((Ext.refl _).alloc (.cells #[.int .i64 tt, .int .i64 fr, .int .i64 0, .int .i64 0, .int .i64 0, .bool false, .string ⟨#[]⟩, .int .i64 0, .int .i64 0, .float .f64 0, .string ⟨#[]⟩, .slice none 0 0] 27))
  obtain ⟨w2, hw2⟩ : ∃ w2, (((w.alloc (.cells #[.int .i64 fr, .int .i64 tt, .int .i64 2, .int .i64 id, .int .i64 rf, .bool ln, .string nm, .int .i64 k, .int .i64 n, .float .f64 f, .string s, .slice so m cap] 27)).alloc (.cells #[.int .i64 0, .int .i64 0, .int .i64 0, .int .i64 0, .int .i64 0, .bool false, .string ⟨#[]⟩, .int .i64 0, .int .i64 0, .float .f64 0, .string ⟨#[]⟩, .slice none 0 0] 27)).alloc (.cells #[.int .i64 tt, .int .i64 fr, .int .i64 0, .int .i64 0, .int .i64 0, .bool false, .string ⟨#[]⟩, .int .i64 0, .int .i64 0, .float .f64 0, .string ⟨#[]⟩, .slice none 0 0] 27)) = w2 := ⟨_, rfl⟩
  rw [hw2] at hB1 hB2 hB3 hE
  have HW := Lib.hid hw2
  have HSB := Lib.hid hB1
  have HZB := Lib.hid hB2
  have HOB := Lib.hid hB3
  have HX := Lib.hid hE
  clear hw2 hE
  obtain ⟨a0, a1, a2, a3, a4, a5, a6, a7, a8, a9, a10, a11⟩ := hB1.cells
  clear hB1 hB2 hB3 h0
  go_enter Try.func9, Try.ntmps9
  go_upto_region 2 with (fail)
  rw [HW.out]
  go_upto_region 7 with (first
    | (go_at_call 21; (with_reducible refine (HSD.out _).mono ?_); rintro e w3 ⟨rfl, hE3⟩; have HX3 := Lib.hid hE3; clear hE3 a0 a1 a2 a3 a4 a5 a6 a7 a8 a9 a10 a11)
    | fail)
  have hX4 := HX3.out.alloc (.cells #[] 50)
  obtain ⟨w4, hw4⟩ : ∃ w4, w3.alloc (.cells #[] 50) = w4 := ⟨_, rfl⟩
  rw [hw4] at hX4 ⊢
  have HX4 := Lib.hid hX4
  clear hX4 hw4
  have HOBS := HOB
  go_upto_region 14 with (first
    | (go_at_call 22; (with_reducible refine (patom_any _ _).mono ?_); rintro e w5 ⟨rfl, hE5⟩; have HX5 := Lib.hid (HX4.out.trans hE5); clear hE5; have f2 := (HOBS.out.ext HX5.out).free 2; have f5 := (HOBS.out.ext HX5.out).free 5; have f7 := (HOBS.out.ext HX5.out).free 7; have f8 := (HOBS.out.ext HX5.out).free 8; have f9 := (HOBS.out.ext HX5.out).free 9; have f10 := (HOBS.out.ext HX5.out).free 10; have f11 := (HOBS.out.ext HX5.out).free 11; obtain ⟨q0, q1, q2, q3, q4, q5, q6, q7, q8, q9, q10, q11⟩ := (HOBS.out.ext HX5.out).cells)
    | fail)
  clear f2 f5 f7 f8 f9 f10 f11 q0 q1 q2 q3 q4 q5 q6 q7 q8 q9 q10 q11
  have hO := (HOB.out.ext HX5.out).to_link
  have hM : Mod (fun j => j = w.heap.size + 1 + 1) w5 (sets w5 (w.heap.size + 1 + 1) [(2, .int .i64 5), (5, .bool true), (7, .int .i64 3), (8, .int .i64 0), (9, .float .f64 0), (10, .string ⟨#[110, 111, 112, 114, 111, 99]⟩), (11, .slice none 0 0)]) := sets_mod (F := fun j => j = w.heap.size + 1 + 1) (.inl rfl) _ (Mod.refl _ w5)
  have hXX := ext_sets (HX.out.trans HX5.out) (show w.heap.size ≤ w.heap.size + 1 + 1 by omega) [(2, .int .i64 5), (5, .bool true), (7, .int .i64 3), (8, .int .i64 0), (9, .float .f64 0), (10, .string ⟨#[110, 111, 112, 114, 111, 99]⟩), (11, .slice none 0 0)]
  have hS := (HSB.out.ext HX5.out).keep hM (by omega)
  have hZ := (HZB.out.ext HX5.out).keep hM (by omega)
  simp only [sets] at hS hZ hXX
  generalize hWW : (((((((w5.setCell ⟨w.heap.size + 1 + 1, 2, none⟩ (.int .i64 5)).setCell ⟨w.heap.size + 1 + 1, 5, none⟩ (.bool true)).setCell ⟨w.heap.size + 1 + 1, 7, none⟩ (.int .i64 3)).setCell ⟨w.heap.size + 1 + 1, 8, none⟩ (.int .i64 0)).setCell ⟨w.heap.size + 1 + 1, 9, none⟩ (.float .f64 0)).setCell ⟨w.heap.size + 1 + 1, 10, none⟩ (.string ⟨#[110, 111, 112, 114, 111, 99]⟩)).setCell ⟨w.heap.size + 1 + 1, 11, none⟩ (.slice none 0 0)) = W at hO hS hZ hXX ⊢
  clear hWW hM
  have HOB := Lib.hid hO
  have HSB := Lib.hid hS
  have HZB := Lib.hid hZ
  have HX := Lib.hid hXX
  clear hO hS hZ hXX
  have c0 : (fr == 0) = true := by have := HF.out; simpa using this
  obtain ⟨b0, _, _, _, _, _, _, _, _, _, _, _⟩ := HSB.out.cells
  obtain ⟨z0, z1, z2, z3, z4, z5, z6, z7, z8, z9, z10, z11⟩ := HZB.out.cells
  have g0 := HZB.out.free 0
  have g1 := HZB.out.free 1
  have g2 := HZB.out.free 2
  have g3 := HZB.out.free 3
  have g4 := HZB.out.free 4
  have g5 := HZB.out.free 5
  have g6 := HZB.out.free 6
  have g7 := HZB.out.free 7
  have g8 := HZB.out.free 8
  have g9 := HZB.out.free 9
  have g10 := HZB.out.free 10
  have g11 := HZB.out.free 11
  have HEND := Lib.hid (ext_sets (B := (w.heap.size + 1)) HX.out (Nat.le_add_right _ _) [(0, .int .i64 0), (1, .int .i64 0), (2, .int .i64 0), (3, .int .i64 0), (4, .int .i64 0), (5, .bool false), (6, .string ⟨#[]⟩), (7, .int .i64 0), (8, .int .i64 0), (9, .float .f64 0), (10, .string ⟨#[]⟩), (11, .slice none 0 0)])
  go_wp2_with fail
  obtain ⟨r0, r1, r2, r3, r4, r5, r6, r7, r8, r9, r10, r11⟩ := (HZB.out.fill 0 0 0 0 0 false ⟨#[]⟩ 0 0 0 ⟨#[]⟩ none 0 0).cells
  exact bodyPost_ret (v := .tuple #[.agg #[.int .i64 0, .int .i64 0, .int .i64 0, .int .i64 0, .int .i64 0, .bool false, .string ⟨#[]⟩, .int .i64 0, .int .i64 0, .float .f64 0, .string ⟨#[]⟩, .slice none 0 0], .bool false]) (by clear z0 z1 z2 z3 z4 z5 z6 z7 z8 z9 z10 z11; simp [results, Try.f9, go_sem, r0, r1, r2, r3, r4, r5, r6, r7, r8, r9, r10, r11]) rfl ⟨rfl, HEND.out⟩

set_option maxRecDepth 100000 in
set_option maxHeartbeats 4000000 in
theorem pdead0 (fr tt kd id rf : Int) (ln : Bool) (nm : ByteArray) (k n : Int) (f : Nat) (s : ByteArray) (so : Option Addr) (m cap : Nat) (h : kd ≠ 2 ∧ kd ≠ 3 ∧ kd ≠ 6) (w : World) :
    Calls Try.prog 9 #[.agg #[.int .i64 fr, .int .i64 tt, .int .i64 kd, .int .i64 id, .int .i64 rf, .bool ln, .string nm, .int .i64 k, .int .i64 n, .float .f64 f, .string s, .slice so m cap]] w fun e w' => e = .returned (.tuple #[.agg #[.int .i64 0, .int .i64 0, .int .i64 0, .int .i64 0, .int .i64 0, .bool false, .string ⟨#[]⟩, .int .i64 0, .int .i64 0, .float .f64 0, .string ⟨#[]⟩, .slice none 0 0], .bool false]) ∧ Ext w w' := by
  have HSD : Hid (∀ w : World, Calls Try.prog 21 #[.agg #[.int .i64 fr, .int .i64 tt, .int .i64 kd, .int .i64 id, .int .i64 rf, .bool ln, .string nm, .int .i64 k, .int .i64 n, .float .f64 f, .string s, .slice so m cap]] w fun e w' => e = .returned .nilIface ∧ Ext w w') := Lib.hid (fun w => by
    have hh := said_any fr tt kd id rf ln nm k n f s so m cap w
    rw [if_neg h.1, if_neg h.2.1, if_neg h.2.2] at hh
    exact hh)
  have c2 : (kd == 2) = false := by simpa using h.1
  have c3 : (kd == 3) = false := by simpa using h.2.1
  have c6 : (kd == 6) = false := by simpa using h.2.2
  clear h
  have hB1 := SBox.new w fr tt kd id rf ln nm k n f s so m cap
  have hB2 := SBox.new (w.alloc (.cells #[.int .i64 fr, .int .i64 tt, .int .i64 kd, .int .i64 id, .int .i64 rf, .bool ln, .string nm, .int .i64 k, .int .i64 n, .float .f64 f, .string s, .slice so m cap] 27)) 0 0 0 0 0 false ⟨#[]⟩ 0 0 0 ⟨#[]⟩ none 0 0
  have hB3 := SBox.new ((w.alloc (.cells #[.int .i64 fr, .int .i64 tt, .int .i64 kd, .int .i64 id, .int .i64 rf, .bool ln, .string nm, .int .i64 k, .int .i64 n, .float .f64 f, .string s, .slice so m cap] 27)).alloc (.cells #[.int .i64 0, .int .i64 0, .int .i64 0, .int .i64 0, .int .i64 0, .bool false, .string ⟨#[]⟩, .int .i64 0, .int .i64 0, .float .f64 0, .string ⟨#[]⟩, .slice none 0 0] 27)) tt fr 0 0 0 false ⟨#[]⟩ 0 0 0 ⟨#[]⟩ none 0 0
  rw [World.size_alloc] at hB2
  rw [World.size_alloc, World.size_alloc] at hB3
  have hE := (((Ext.refl w).alloc (.cells #[.int .i64 fr, .int .i64 tt, .int .i64 kd, .int .i64 id, .int .i64 rf, .bool ln, .string nm, .int .i64 k, .int .i64 n, .float .f64 f, .string s, .slice so m cap] 27)).alloc (.cells #[.int .i64 0, .int .i64 0, .int .i64 0, .int .i64 0, .int .i64 0, .bool false, .string ⟨#[]⟩, .int .i64 0, .int .i64 0, .float .f64 0, .string ⟨#[]⟩, .slice none 0 0] 27)).alloc (.cells #[.int .i64 tt, .int .i64 fr, .int .i64 0, .int .i64 0, .int .i64 0, .bool false, .string ⟨#[]⟩, .int .i64 0, .int .i64 0, .float .f64 0, .string ⟨#[]⟩, .slice none 0 0] 27)
  have hB1 := (hB1.ext ((Ext.refl _).alloc (.cells #[.int .i64 0, .int .i64 0, .int .i64 0, .int .i64 0, .int .i64 0, .bool false, .string ⟨#[]⟩, .int .i64 0, .int .i64 0, .float .f64 0, .string ⟨#[]⟩, .slice none 0 0] 27))).ext ((Ext.refl _).alloc (.cells #[.int .i64 tt, .int .i64 fr, .int .i64 0, .int .i64 0, .int .i64 0, .bool false, .string ⟨#[]⟩, .int .i64 0, .int .i64 0, .float .f64 0, .string ⟨#[]⟩, .slice none 0 0] 27))
  have hB2 := hB2.ext ((Ext.refl _).alloc (.cells #[.int .i64 tt, .int .i64 fr, .int .i64 0, .int .i64 0, .int .i64 0, .bool false, .string ⟨#[]⟩, .int .i64 0, .int .i64 0, .float .f64 0, .string ⟨#[]⟩, .slice none 0 0] 27))
  obtain ⟨w2, hw2⟩ : ∃ w2, (((w.alloc (.cells #[.int .i64 fr, .int .i64 tt, .int .i64 kd, .int .i64 id, .int .i64 rf, .bool ln, .string nm, .int .i64 k, .int .i64 n, .float .f64 f, .string s, .slice so m cap] 27)).alloc (.cells #[.int .i64 0, .int .i64 0, .int .i64 0, .int .i64 0, .int .i64 0, .bool false, .string ⟨#[]⟩, .int .i64 0, .int .i64 0, .float .f64 0, .string ⟨#[]⟩, .slice none 0 0] 27)).alloc (.cells #[.int .i64 tt, .int .i64 fr, .int .i64 0, .int .i64 0, .int .i64 0, .bool false, .string ⟨#[]⟩, .int .i64 0, .int .i64 0, .float .f64 0, .string ⟨#[]⟩, .slice none 0 0] 27)) = w2 := ⟨_, rfl⟩
  rw [hw2] at hB1 hB2 hB3 hE
  have HW := Lib.hid hw2
  have HSB := Lib.hid hB1
  have HZB := Lib.hid hB2
  have HOB := Lib.hid hB3
  have HX := Lib.hid hE
  clear hw2 hE
  obtain ⟨a0, a1, a2, a3, a4, a5, a6, a7, a8, a9, a10, a11⟩ := hB1.cells
  clear hB1 hB2 hB3
  go_enter Try.func9, Try.ntmps9
  go_upto_region 2 with (fail)
  rw [HW.out]
  go_upto_region 5 with (first
    | (go_at_call 21; (with_reducible refine (HSD.out _).mono ?_); rintro e w3 ⟨rfl, hE3⟩; have HX3 := Lib.hid hE3; clear hE3 a0 a1 a2 a3 a4 a5 a6 a7 a8 a9 a10 a11)
    | fail)
  obtain ⟨z0, z1, z2, z3, z4, z5, z6, z7, z8, z9, z10, z11⟩ := (HZB.out.ext HX3.out).cells
  have g0 := (HZB.out.ext HX3.out).free 0
  have g1 := (HZB.out.ext HX3.out).free 1
  have g2 := (HZB.out.ext HX3.out).free 2
  have g3 := (HZB.out.ext HX3.out).free 3
  have g4 := (HZB.out.ext HX3.out).free 4
  have g5 := (HZB.out.ext HX3.out).free 5
  have g6 := (HZB.out.ext HX3.out).free 6
  have g7 := (HZB.out.ext HX3.out).free 7
  have g8 := (HZB.out.ext HX3.out).free 8
  have g9 := (HZB.out.ext HX3.out).free 9
  have g10 := (HZB.out.ext HX3.out).free 10
  have g11 := (HZB.out.ext HX3.out).free 11
  have HEND := Lib.hid (ext_sets (B := (w.heap.size + 1)) (HX.out.trans HX3.out) (Nat.le_add_right _ _) [(0, .int .i64 0), (1, .int .i64 0), (2, .int .i64 0), (3, .int .i64 0), (4, .int .i64 0), (5, .bool false), (6, .string ⟨#[]⟩), (7, .int .i64 0), (8, .int .i64 0), (9, .float .f64 0), (10, .string ⟨#[]⟩), (11, .slice none 0 0)])
  go_wp2_with fail
  obtain ⟨r0, r1, r2, r3, r4, r5, r6, r7, r8, r9, r10, r11⟩ := ((HZB.out.ext HX3.out).fill 0 0 0 0 0 false ⟨#[]⟩ 0 0 0 ⟨#[]⟩ none 0 0).cells
  exact bodyPost_ret (v := .tuple #[.agg #[.int .i64 0, .int .i64 0, .int .i64 0, .int .i64 0, .int .i64 0, .bool false, .string ⟨#[]⟩, .int .i64 0, .int .i64 0, .float .f64 0, .string ⟨#[]⟩, .slice none 0 0], .bool false]) (by clear z0 z1 z2 z3 z4 z5 z6 z7 z8 z9 z10 z11; simp [results, Try.f9, go_sem, r0, r1, r2, r3, r4, r5, r6, r7, r8, r9, r10, r11]) rfl ⟨rfl, HEND.out⟩

end Go.Proofs.Ytdimmomjildpcaa
