/- A message of three terms, the last one being an atom if it would be too great. -/
import Derived.Test.YtdimmomjildpcaaExAct2
import Derived.Test.YtdimmomjildpcaaExSame
import Derived.Test.YtdimmomjildpcaaTmMade
namespace Go.Proofs.Ytdimmomjildpcaa
open Go.RowKit
attribute [local irreducible] Ext
attribute [local go_sem] run_store_float

/-- "system_limit" -/
def slS : ByteArray := ⟨#[115, 121, 115, 116, 101, 109, 95, 108, 105, 109, 105, 116]⟩

/-- Three terms in one block. -/
def Three (w : World) (b : Nat) (eS : ByteArray) (fr : Int) (k n : Int) (f : Nat) (s : ByteArray) (so : Option Addr) (m cap : Nat) : Prop :=
  w.heap[b]? = some (.cells #[.int .i64 3, .int .i64 0, .float .f64 0, .string eS, .slice none 0 0, .int .i64 6, .int .i64 fr, .float .f64 0, .string ⟨#[]⟩, .slice none 0 0, .int .i64 k, .int .i64 n, .float .f64 f, .string s, .slice so m cap] 25 (0, 0))

theorem Three.row {w : World} {b : Nat} {eS : ByteArray} {fr k n : Int} {f : Nat} {s : ByteArray} {so : Option Addr} {L : List Tm} {cap : Nat} {own : Bool} {G : Nat → Prop} (h : Three w b eS fr k n f s so L.length cap) (hr : RowIn w own G L so 0) :
    RowIn w false (fun _ => True) [.mk 3 0 0 eS [], .mk 6 fr 0 ⟨#[]⟩ [], .mk k n f s L] (some ⟨b, 0, none⟩) 0 := by
  refine RowIn.of_get fun j x hx => ⟨b, 0, rfl, trivial, (fun h => by cases h), ?_⟩
  match j, hx with
  | 0, hx =>
    obtain rfl : _ = x := by simpa using hx
    exact TmIn.mk' ⟨cell_of_heap h 0, cell_of_heap h 1, cell_of_heap h 2, cell_of_heap h 3, none, 0, cell_of_heap h 4, row_nil _ _ _ _⟩
  | 1, hx =>
    obtain rfl : _ = x := by simpa using hx
    exact TmIn.mk' ⟨cell_of_heap h 5, cell_of_heap h 6, cell_of_heap h 7, cell_of_heap h 8, none, 0, cell_of_heap h 9, row_nil _ _ _ _⟩
  | 2, hx =>
    obtain rfl : _ = x := by simpa using hx
    exact TmIn.mk' ⟨cell_of_heap h 10, cell_of_heap h 11, cell_of_heap h 12, cell_of_heap h 13, so, cap, cell_of_heap h 14, (hr.loose).mono (fun _ _ => trivial)⟩
  | j + 3, hx => simp at hx

theorem Three.last {w : World} {b : Nat} {eS : ByteArray} {fr k n : Int} {f : Nat} {s : ByteArray} {so : Option Addr} {m cap : Nat} (h : Three w b eS fr k n f s so m cap) (k' n' : Int) (f' : Nat) (s' : ByteArray) (so' : Option Addr) (m' cap' : Nat) :
    Three (((((w.setCell ⟨b, 10, none⟩ (.int .i64 k')).setCell ⟨b, 11, none⟩ (.int .i64 n')).setCell ⟨b, 12, none⟩ (.float .f64 f')).setCell ⟨b, 13, none⟩ (.string s')).setCell ⟨b, 14, none⟩ (.slice so' m' cap')) b eS fr k' n' f' s' so' m' cap' := by
  unfold Three at h ⊢
  have h0 := heap_set (o := 10) h (.int .i64 k')
  have h1 := heap_set (o := 11) h0 (.int .i64 n')
  have h2 := heap_set (o := 12) h1 (.float .f64 f')
  have h3 := heap_set (o := 13) h2 (.string s')
  have h4 := heap_set (o := 14) h3 (.slice so' m' cap')
  simpa using h4

theorem check_limit (eS : ByteArray) (he : eS.size ≤ 64) (fr : Int) (hf : 0 ≤ fr ∧ fr ≤ 1099511627776) : checkT (.mk 7 0 0 ⟨#[]⟩ [.mk 3 0 0 eS [], .mk 6 fr 0 ⟨#[]⟩ [], .mk 3 0 0 slS []]) = 0 := by
  have e1 : slS.size ≤ 64 := by decide
  simp [checkT, measT, measL, allT, allL, fieldsT, fieldsV, ownT, ownV, Tm.kind, Tm.n, Tm.f, Tm.s, Tm.l, he, hf.1, hf.2, e1]

/-- What either leaves: b: the block of the three. -/
def EithPost (w : World) (b : Nat) (eS : ByteArray) (fr : Int) (e : Ending) (w' : World) : Prop :=
  ∃ (y : Tm) (so : Option Addr) (cap : Nat), e = .returned (.agg #[.int .i64 7, .int .i64 0, .float .f64 0, .string ⟨#[]⟩, .slice so 3 cap]) ∧ RowIn w' true (fun k => w.heap.size ≤ k) [.mk 3 0 0 eS [], .mk 6 fr 0 ⟨#[]⟩ [], y] so 0 ∧
    checkT (.mk 7 0 0 ⟨#[]⟩ [.mk 3 0 0 eS [], .mk 6 fr 0 ⟨#[]⟩ [], y]) = 0 ∧ cntT y ≤ 100000000 - 10 ∧ okT y ∧ Mod (fun k => k = b) w w'

set_option maxRecDepth 100000 in
set_option maxHeartbeats 8000000 in
theorem either_any (eS : ByteArray) (he : eS.size ≤ 64) (fr : Int) (hf : 0 ≤ fr ∧ fr ≤ 1099511627776) {k n : Int} {f : Nat} {s : ByteArray} {L : List Tm} {own : Bool} {G : Nat → Prop} {so : Option Addr} {b cap c3 : Nat} (w : World)
    (h3 : Three w b eS fr k n f s so L.length cap) (hrow : RowIn w own G L so 0) (hc : cntL L + 20 ≤ 100000000) (hok : okT (.mk k n f s L)) (hr : checkT (.mk k n f s L) = 0) :
    Calls Try.prog 27 #[.slice (some ⟨b, 0, none⟩) 3 c3] w fun e w' => EithPost w b eS fr e w' := by
  have hE := (Ext.refl w).alloc (.cells #[.int .i64 0, .int .i64 0, .float .f64 0, .string ⟨#[]⟩, .slice none 0 0] 25)
  have hB := RBox.new w 0 0 0 ⟨#[]⟩ none 0 0
  obtain ⟨w1, hw1⟩ : ∃ w1, w.alloc (.cells #[.int .i64 0, .int .i64 0, .float .f64 0, .string ⟨#[]⟩, .slice none 0 0] 25) = w1 := ⟨_, rfl⟩
  rw [hw1] at hE hB
  have hb : b < w.heap.size := heap_lt h3
  have hfst : firstT [.mk 3 0 0 eS [], .mk 6 fr 0 ⟨#[]⟩ [], .mk k n f s L] = 0 := by
    simp [firstT, check_atom eS he, check_pid fr hf, hr]
  have hfst2 : firstT [.mk 3 0 0 eS [], .mk 6 fr 0 ⟨#[]⟩ [], .mk 3 0 0 slS []] = 0 := by
    simp [firstT, check_atom eS he, check_pid fr hf, check_atom slS (by decide)]
  have hcn : cntL [.mk 3 0 0 eS [], .mk 6 fr 0 ⟨#[]⟩ [], .mk k n f s L] + 1 ≤ 100000000 := by simp only [cntL, cntT]; omega
  have hok3 : okL [.mk 3 0 0 eS [], .mk 6 fr 0 ⟨#[]⟩ [], .mk k n f s L] := by
    simp only [okL]
    exact ⟨ok_leaf _ _ _, ok_leaf _ _ _, hok, trivial⟩
  have hok4 : okL [.mk 3 0 0 eS [], .mk 6 fr 0 ⟨#[]⟩ [], .mk 3 0 0 slS []] := by
    simp only [okL]
    exact ⟨ok_leaf _ _ _, ok_leaf _ _ _, ok_leaf _ _ _, trivial⟩
  have HT1 : Hid (Calls Try.prog 33 #[.slice (some ⟨b, 0, none⟩) 3 c3] w1 fun e w' => ((checkT (.mk 7 0 0 ⟨#[]⟩ [.mk 3 0 0 eS [], .mk 6 fr 0 ⟨#[]⟩ [], .mk k n f s L]) ≠ 0 ∧ e = .returned (.tuple #[.agg #[.int .i64 0, .int .i64 0, .float .f64 0, .string ⟨#[]⟩, .slice none 0 0], .int .i64 12])) ∨ (checkT (.mk 7 0 0 ⟨#[]⟩ [.mk 3 0 0 eS [], .mk 6 fr 0 ⟨#[]⟩ [], .mk k n f s L]) = 0 ∧ ∃ so2 cap2, e = .returned (.tuple #[.agg #[.int .i64 7, .int .i64 0, .float .f64 0, .string ⟨#[]⟩, .slice so2 3 cap2], .int .i64 0]) ∧ RowIn w' true (fun q => w1.heap.size ≤ q) [.mk 3 0 0 eS [], .mk 6 fr 0 ⟨#[]⟩ [], .mk k n f s L] so2 0)) ∧ Ext w1 w') := Lib.hid ((tuple_any c3 w1 ((h3.row hrow).ext hE) hcn hok3).mono (by
    rintro e w' ⟨⟨h0, _⟩ | ⟨_, h1, he⟩ | ⟨_, h1, so2, cap2, he, hr⟩, hE⟩
    · exact absurd hfst h0
    · exact ⟨.inl ⟨h1, he⟩, hE⟩
    · exact ⟨.inr ⟨h1, so2, cap2, he, hr⟩, hE⟩))
  have HT2 : Hid (∀ w5 : World, Three w5 b eS fr 3 0 0 slS none 0 0 → Calls Try.prog 33 #[.slice (some ⟨b, 0, none⟩) 3 c3] w5 fun e w' => ((checkT (.mk 7 0 0 ⟨#[]⟩ [.mk 3 0 0 eS [], .mk 6 fr 0 ⟨#[]⟩ [], .mk 3 0 0 slS []]) ≠ 0 ∧ e = .returned (.tuple #[.agg #[.int .i64 0, .int .i64 0, .float .f64 0, .string ⟨#[]⟩, .slice none 0 0], .int .i64 12])) ∨ (checkT (.mk 7 0 0 ⟨#[]⟩ [.mk 3 0 0 eS [], .mk 6 fr 0 ⟨#[]⟩ [], .mk 3 0 0 slS []]) = 0 ∧ ∃ so2 cap2, e = .returned (.tuple #[.agg #[.int .i64 7, .int .i64 0, .float .f64 0, .string ⟨#[]⟩, .slice so2 3 cap2], .int .i64 0]) ∧ RowIn w' true (fun q => w5.heap.size ≤ q) [.mk 3 0 0 eS [], .mk 6 fr 0 ⟨#[]⟩ [], .mk 3 0 0 slS []] so2 0)) ∧ Ext w5 w') := Lib.hid (fun w5 h => (tuple_any c3 w5 (Three.row (L := []) h (row_nil w5 false (fun _ => True) none)) (by simp only [cntL, cntT]; omega) hok4).mono (by
    rintro e w' ⟨⟨h0, _⟩ | ⟨_, h1, he⟩ | ⟨_, h1, so2, cap2, he, hr⟩, hE⟩
    · exact absurd hfst2 h0
    · exact ⟨.inl ⟨h1, he⟩, hE⟩
    · exact ⟨.inr ⟨h1, so2, cap2, he, hr⟩, hE⟩))
  have HLIM := Lib.hid (check_limit eS he fr hf)
  have HF := Lib.hid (And.intro hfst hfst2)
  have HW := Lib.hid hw1
  have HE := Lib.hid hE
  have HB := Lib.hid hB
  have H3 := Lib.hid (show Three w1 b eS fr k n f s so L.length cap from hE.keep h3)
  have HBB := Lib.hid hb
  have HOK := Lib.hid (And.intro hok hc)
  clear hw1 hE hB hrow h3 hb hfst hfst2 hcn hok3 hok4 he hf hr hok hc
  go_enter Try.func27, Try.ntmps27
  go_upto_region 1 with (fail)
  rw [HW.out]
  go_wp2_with fail
  refine HT1.out.mono ?_
  rintro e w3 ⟨hcase, hE3⟩
  have HX3 := Lib.hid hE3
  have H33 := Lib.hid (show Three w3 b eS fr k n f s so L.length cap from hE3.keep H3.out)
  have HB3 := Lib.hid (HB.out.ext hE3)
  clear hE3 HT1 H3
  rcases hcase with ⟨h0, rfl⟩ | ⟨h0, so2, cap2, rfl, hr2⟩
  · have hX4 := HX3.out.alloc (.cells #[.int .i64 0, .int .i64 0, .float .f64 0, .string ⟨#[]⟩, .slice none 0 0] 25)
    have hR4 := RBox.new w3 0 0 0 ⟨#[]⟩ none 0 0
    have hT4 : Three (w3.alloc (.cells #[.int .i64 0, .int .i64 0, .float .f64 0, .string ⟨#[]⟩, .slice none 0 0] 25)) b eS fr k n f s so L.length cap := ((Ext.refl w3).alloc _).keep H33.out
    have hB4 := HB3.out.ext ((Ext.refl w3).alloc (.cells #[.int .i64 0, .int .i64 0, .float .f64 0, .string ⟨#[]⟩, .slice none 0 0] 25))
    obtain ⟨w4, hw4⟩ : ∃ w4, w3.alloc (.cells #[.int .i64 0, .int .i64 0, .float .f64 0, .string ⟨#[]⟩, .slice none 0 0] 25) = w4 := ⟨_, rfl⟩
    have hlt : b < w3.heap.size ∧ w.heap.size < w3.heap.size := ⟨by have := heap_lt H33.out; exact this, HB3.out.lt⟩
    obtain ⟨bt, hbt⟩ : ∃ bt, w3.heap.size = bt := ⟨_, rfl⟩
    have HW4 := Lib.hid hw4
    have HBT := Lib.hid hbt
    rw [hw4] at hX4 hR4 hT4 hB4
    rw [hbt] at hR4 hlt
    have HX4 := Lib.hid hX4
    have HR4 := Lib.hid hR4
    have HT4 := Lib.hid hT4
    have HB4 := Lib.hid hB4
    have HLT := Lib.hid hlt
    clear h0 hw4 hbt hX4 hR4 hT4 hB4 hlt
    go_upto_region 2 with (fail)
    rw [HW4.out, HBT.out]
    go_upto_region 4 with (first
      | (go_at_call 22; (with_reducible refine (patom_any _ _).mono ?_); rintro e w5 ⟨rfl, hE5⟩; have HE5 := Lib.hid hE5; have hT5 : Three w5 b eS fr k n f s so L.length cap := hE5.keep HT4.out; have x10 := cell_of_heap hT5 10; have x11 := cell_of_heap hT5 11; have x12 := cell_of_heap hT5 12; have x13 := cell_of_heap hT5 13; have x14 := cell_of_heap hT5 14; have y10 := free_of_heap hT5 10; have y11 := free_of_heap hT5 11; have y12 := free_of_heap hT5 12; have y13 := free_of_heap hT5 13; have y14 := free_of_heap hT5 14; have HT5 := Lib.hid hT5; clear hE5 hT5)
      | fail)
    clear x10 x11 x12 x13 x14 y10 y11 y12 y13 y14
    have hT6 := HT5.out.last 3 0 0 slS none 0 0
    have hM6 : Mod (fun q => q = b) w5 (sets w5 b [(10, .int .i64 3), (11, .int .i64 0), (12, .float .f64 0), (13, .string slS), (14, .slice none 0 0)]) := sets_mod (F := fun q => q = b) (.inl rfl) _ (Mod.refl _ w5)
    simp only [sets] at hM6
    unfold slS at hT6 hM6
    generalize hw6 : ((((w5.setCell ⟨b, 10, none⟩ (.int .i64 3)).setCell ⟨b, 11, none⟩ (.int .i64 0)).setCell ⟨b, 12, none⟩ (.float .f64 0)).setCell ⟨b, 13, none⟩ (.string ⟨#[115, 121, 115, 116, 101, 109, 95, 108, 105, 109, 105, 116]⟩)).setCell ⟨b, 14, none⟩ (.slice none 0 0) = w6 at hT6 hM6 ⊢
    have HT6 := Lib.hid (show Three w6 b eS fr 3 0 0 slS none 0 0 from hT6)
    have HB6 := Lib.hid ((HB4.out.ext HE5.out).keep hM6 (by have := HBB.out; omega))
    have HR6 := Lib.hid ((HR4.out.ext HE5.out).keep hM6 (by have := HLT.out; omega))
    have HM6 := Lib.hid (Mod.trans (mod_of_ext (F := fun q => q = b) ((HE.out.trans HX4.out).trans HE5.out)) hM6 (fun _ _ h => h))
    clear hT6 hM6 hw6
    go_wp2_with fail
    refine (HT2.out _ HT6.out).mono ?_
    rintro e w7 ⟨hcase2, hE7⟩
    obtain ⟨so2, cap2, rfl, hr7⟩ : ∃ so2 cap2, e = .returned (.tuple #[.agg #[.int .i64 7, .int .i64 0, .float .f64 0, .string ⟨#[]⟩, .slice so2 3 cap2], .int .i64 0]) ∧ RowIn w7 true (fun q => w6.heap.size ≤ q) [.mk 3 0 0 eS [], .mk 6 fr 0 ⟨#[]⟩ [], .mk 3 0 0 slS []] so2 0 := by
      rcases hcase2 with ⟨h1, _⟩ | ⟨_, so2, cap2, he, hr⟩
      · exact absurd HLIM.out h1
      · exact ⟨so2, cap2, he, hr⟩
    have HR7 := Lib.hid hr7
    have HM7 := Lib.hid (Mod.trans HM6.out (mod_of_ext (F := fun q => q = b) hE7) (fun _ _ h => h))
    have HQ7 := Lib.hid (And.intro hE7.size HR6.out.lt)
    have hB7 := HB6.out.ext hE7
    obtain ⟨t0, t1, t2, t3, t4⟩ := (HR6.out.ext hE7).cells
    have f0 := (HR6.out.ext hE7).free 0
    have f1 := (HR6.out.ext hE7).free 1
    have f2 := (HR6.out.ext hE7).free 2
    have f3 := (HR6.out.ext hE7).free 3
    have f4 := (HR6.out.ext hE7).free 4
    have HR8 := Lib.hid ((HR6.out.ext hE7).fill 7 0 0 ⟨#[]⟩ so2 3 cap2)
    have HB7 := Lib.hid hB7
    clear hE7 hB7 hr7 hcase2
    go_upto_region 5 with (fail)
    have hM8 := set5_mod (F := fun q => q = bt) (B := bt) (Mod.refl (fun q => q = bt) w7) (.inl rfl) 7 0 0 ⟨#[]⟩ so2 3 cap2
    unfold set5 at hM8
    have hr8 := HR8.out
    generalize hw8 : ((((w7.setCell ⟨bt, 0, none⟩ (.int .i64 7)).setCell ⟨bt, 1, none⟩ (.int .i64 0)).setCell ⟨bt, 2, none⟩ (.float .f64 0)).setCell ⟨bt, 3, none⟩ (.string ⟨#[]⟩)).setCell ⟨bt, 4, none⟩ (.slice so2 3 cap2) = w8 at hM8 hr8 ⊢
    have hB8 := HB7.out.keep hM8 (by have := HLT.out; omega)
    have HROW := Lib.hid (HR7.out.keep hM8 (fun q hq e => by have := HQ7.out; omega))
    have HM8 := Lib.hid (Mod.trans (F := fun q => q = b) HM7.out hM8 (fun q hq e => by have := HLT.out; have := HE.out.size; have := HX3.out.size; exfalso; omega))
    clear t0 t1 t2 t3 t4 f0 f1 f2 f3 f4 hM8 hw8
    obtain ⟨u0, u1, u2, u3, u4⟩ := hr8.cells
    obtain ⟨z0, z1, z2, z3, z4⟩ := hB8.cells
    have g0 := hB8.free 0
    have g1 := hB8.free 1
    have g2 := hB8.free 2
    have g3 := hB8.free 3
    have g4 := hB8.free 4
    have HB8 := Lib.hid hB8
    clear hB8 hr8
    go_wp2_with fail
    obtain ⟨r0, r1, r2, r3, r4⟩ := (HB8.out.fill 7 0 0 ⟨#[]⟩ so2 3 cap2).cells
    have hM9 := set5_mod (F := fun q => q = w.heap.size) (B := w.heap.size) (Mod.refl (fun q => q = w.heap.size) w8) (.inl rfl) 7 0 0 ⟨#[]⟩ so2 3 cap2
    exact bodyPost_ret (v := .agg #[.int .i64 7, .int .i64 0, .float .f64 0, .string ⟨#[]⟩, .slice so2 3 cap2]) (by simp [results, Try.f27, go_sem, r0, r1, r2, r3, r4]) rfl
      ⟨.mk 3 0 0 slS [], so2, cap2, rfl, (HROW.out.keep hM9 (fun q hq e => by have := HQ7.out; have := HLT.out; omega)).mono (fun q hq => by have := HQ7.out; have := HLT.out; omega), HLIM.out, by simp only [cntT, cntL]; omega, ok_leaf _ _ _,
       Mod.trans (F := fun q => q = b) HM8.out hM9 (fun q hq e => by exfalso; omega)⟩
  · have hX4 := HX3.out.alloc (.cells #[.int .i64 7, .int .i64 0, .float .f64 0, .string ⟨#[]⟩, .slice so2 3 cap2] 25)
    have hR4 := RBox.new w3 7 0 0 ⟨#[]⟩ so2 3 cap2
    have hB4 := HB3.out.ext ((Ext.refl w3).alloc (.cells #[.int .i64 7, .int .i64 0, .float .f64 0, .string ⟨#[]⟩, .slice so2 3 cap2] 25))
    have hrow4 := hr2.ext ((Ext.refl w3).alloc (.cells #[.int .i64 7, .int .i64 0, .float .f64 0, .string ⟨#[]⟩, .slice so2 3 cap2] 25))
    obtain ⟨w4, hw4⟩ : ∃ w4, w3.alloc (.cells #[.int .i64 7, .int .i64 0, .float .f64 0, .string ⟨#[]⟩, .slice so2 3 cap2] 25) = w4 := ⟨_, rfl⟩
    obtain ⟨bt, hbt⟩ : ∃ bt, w3.heap.size = bt := ⟨_, rfl⟩
    have HH0 := Lib.hid h0
    have HW4 := Lib.hid hw4
    have HBT := Lib.hid hbt
    rw [hw4] at hX4 hR4 hB4 hrow4
    rw [hbt] at hR4
    have HX4 := Lib.hid hX4
    have HR4 := Lib.hid hR4
    have HB4 := Lib.hid hB4
    have HROW := Lib.hid hrow4
    clear h0 hr2 hw4 hbt hX4 hR4 hB4 hrow4
    go_upto_region 2 with (fail)
    rw [HW4.out, HBT.out]
    have hR4 := HR4.out
    have hB4 := HB4.out
    obtain ⟨u0, u1, u2, u3, u4⟩ := hR4.cells
    obtain ⟨z0, z1, z2, z3, z4⟩ := hB4.cells
    have g0 := hB4.free 0
    have g1 := hB4.free 1
    have g2 := hB4.free 2
    have g3 := hB4.free 3
    have g4 := hB4.free 4
    have HSZ := Lib.hid (And.intro HE.out.size HB.out.lt)
    clear hR4 hB4
    go_wp2_with fail
    obtain ⟨r0, r1, r2, r3, r4⟩ := (HB4.out.fill 7 0 0 ⟨#[]⟩ so2 3 cap2).cells
    have hM9 := set5_mod (F := fun q => q = w.heap.size) (B := w.heap.size) (Mod.refl (fun q => q = w.heap.size) w4) (.inl rfl) 7 0 0 ⟨#[]⟩ so2 3 cap2
    exact bodyPost_ret (v := .agg #[.int .i64 7, .int .i64 0, .float .f64 0, .string ⟨#[]⟩, .slice so2 3 cap2]) (by simp [results, Try.f27, go_sem, r0, r1, r2, r3, r4]) rfl
      ⟨.mk k n f s L, so2, cap2, rfl, (HROW.out.keep hM9 (fun q hq e => by have := HSZ.out; omega)).mono (fun q hq => by have := HSZ.out; omega), HH0.out, by have := HOK.out.2; simp only [cntT]; omega, HOK.out.1,
       Mod.trans (F := fun q => q = b) (mod_of_ext (F := fun q => q = b) (HE.out.trans HX4.out)) hM9 (fun q hq e => by exfalso; omega)⟩

end Go.Proofs.Ytdimmomjildpcaa
