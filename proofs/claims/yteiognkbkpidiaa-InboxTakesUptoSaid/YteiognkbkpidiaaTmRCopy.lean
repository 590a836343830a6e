/- Copies of terms: the document's. -/
import Derived.Test.YteiognkbkpidiaaTmCopy
namespace Go.Proofs.Yteiognkbkpidiaa
open Go.RowKit
attribute [local irreducible] Ext
attribute [local go_sem] run_store_float

set_option maxRecDepth 100000 in
set_option maxHeartbeats 2000000 in
theorem rcopy_any (t : Tm) : ∀ (own : Bool) (G : Nat → Prop) (v : Value) (w : World), TmV w own G v t → cntT t ≤ 100000000 → Calls Try.prog 15 #[v] w fun e w' => CopyPost w t e w' := by
  induction t using Tm.ind with
  | h t ih =>
    obtain ⟨k, n, f, s, L⟩ := t
    intro own G v w hv hcnt
    obtain ⟨so, cap, rfl, hrow⟩ := hv.parts
    simp only [Tm.l] at ih
    simp only [cntT] at hcnt
    clear hv
    have hE1 := (Ext.refl w).alloc (.cells #[.int .i64 k, .int .i64 n, .float .f64 f, .string s, .slice so L.length cap] 27)
    have hB1 := RBox.new w k n f s so L.length cap
    obtain ⟨w1, hw1⟩ : ∃ w1, w.alloc (.cells #[.int .i64 k, .int .i64 n, .float .f64 f, .string s, .slice so L.length cap] 27) = w1 := ⟨_, rfl⟩
    have hs1 : w1.heap.size = w.heap.size + 1 := by rw [← hw1]; simp
    rw [hw1] at hE1 hB1
    have hE2 := hE1.alloc (.cells #[.int .i64 0, .int .i64 0, .float .f64 0, .string ⟨#[]⟩, .slice none 0 0] 27)
    have hB2 := RBox.new w1 0 0 0 ⟨#[]⟩ none 0 0
    rw [hs1] at hB2
    have hB1' := hB1.ext ((Ext.refl w1).alloc (.cells #[.int .i64 0, .int .i64 0, .float .f64 0, .string ⟨#[]⟩, .slice none 0 0] 27))
    obtain ⟨w2, hw2⟩ : ∃ w2, w1.alloc (.cells #[.int .i64 0, .int .i64 0, .float .f64 0, .string ⟨#[]⟩, .slice none 0 0] 27) = w2 := ⟨_, rfl⟩
    have hs2 : w2.heap.size = w.heap.size + 2 := by rw [← hw2]; simp; omega
    rw [hw2] at hE2 hB2 hB1'
    have hll := len_cnt L
    have HIH := Lib.hid ih
    have HC := Lib.hid (And.intro hcnt hll)
    have HR := Lib.hid (hrow.ext hE2)
    have HE2 := Lib.hid hE2
    have HB1 := Lib.hid hB1'
    have HB2 := Lib.hid hB2
    have HW1 := Lib.hid hw1
    have HW2 := Lib.hid hw2
    have HS := Lib.hid hs2
    obtain ⟨i0, hi, hz0, hz1, hz2⟩ := info_parts info5
    have HI := Lib.hid (And.intro hi (And.intro hz0 (And.intro hz1 hz2)))
    clear ih hrow hcnt hll hE1 hE2 hB1 hB2 hB1' hw1 hw2 hs1 hs2 hi hz0 hz1 hz2
    go_enter Try.func15, Try.ntmps15
    go_upto_region 1 with (fail)
    rw [HW1.out, HW2.out]
    go_wp2_with fail
    go_loopg [3, 4] L.length (fun g o i wr => ∃ (j : Nat) (es : List El), j + g = L.length ∧ i = .int .i64 j ∧ Hid (es.map Prod.fst = L.take j) ∧ Hid (TRow wr (fun k => w2.heap.size ≤ k) o es) ∧ Hid (Ext w2 wr))
    case atStart => exact ⟨0, [], by omega, rfl, Lib.hid rfl, Lib.hid (TRow.nil _ _), Lib.hid (Ext.refl w2)⟩
    case round =>
      obtain ⟨j, es, hj, rfl, HES, HT, HE⟩ := hrel
      have hlen : es.length = j := by
        have := congrArg List.length HES.out
        rw [List.length_map, List.length_take] at this
        omega
      obtain ⟨_, _, _, _, z4⟩ := (HB1.out.ext HE.out).cells
      obtain ⟨s0, k0, rfl⟩ := HT.out.slice
      by_cases hlt : j < L.length
      · have c1 : decide ((j : Int) < (L.length : Int)) = true := decide_eq_true (by omega)
        have c1' : decide (j < L.length) = true := decide_eq_true hlt
        obtain ⟨x, hx⟩ : ∃ x, L[j]? = some x := ⟨L[j]'hlt, List.getElem?_eq_getElem hlt⟩
        obtain ⟨bb, oo, so', cap', rfl, q0, q1, q2, q3, q4, htm⟩ := (HR.out.ext HE.out).elem hx
        have hmem := List.mem_of_getElem? hx
        have hcall := HIH.out x hmem own G _ wr htm (by have := HC.out; have := cnt_mem hmem; omega)
        unfold elV at hcall
        have e3 : IntKind.i64.wrap ((j : Int) + 1) = ((j + 1 : Nat) : Int) := by rw [IntWalk.i64_in _ (by have := HC.out; omega)]; rfl
        have HX := Lib.hid hx
        have HLJ := Lib.hid hlen
        clear htm hx hmem
        go_wp2_with fail
        refine hcall.mono ?_
        rintro e w3 ⟨so2, cap2, rfl, hrow2, hE3⟩
        unfold elV
        have HE3 := Lib.hid hE3
        have HR2 := Lib.hid hrow2
        have hT2 := (HT.out.ext hE3).own
        have HO := Lib.hid hT2
        have hsrc := src_el (w := w3.alloc (.cells #[.int .i64 x.kind, .int .i64 x.n, .float .f64 x.f, .string x.s, .slice so2 x.l.length cap2] 27)) (x, so2, cap2) (heap_alloc_new w3 _)
        have HSRC := Lib.hid hsrc
        clear hcall q0 q1 q2 q3 q4 hE3 hrow2 hT2 hsrc hlen z4
        go_wp2_with (first
          | (at_builtin
             obtain ⟨hi, hz0, hz1, hz2⟩ := HI.out
             refine wpList_app rfl (.tmp 12) (.tmp 19) 22 rfl 0 27 i0 (.agg #[.int .i64 0, .int .i64 0, .float .f64 0, .string ⟨#[]⟩, .slice none 0 0]) 5 64 Try.underlying22 hi hz0 hz1 hz2 rfl (by decide) _ _ _ rfl (HO.out.alloc _) (some ⟨w3.heap.size, 0, none⟩) 1 1 (elC (x, so2, cap2)) rfl rfl HSRC.out (elC_ones _) (by have := HC.out; have := HLJ.out; omega) (by decide) (Nat.zero_le _) ?_
             intro so3 cap3 w4 hown3 hM3 hb3
             have HT3 := Lib.hid ((HT.out.push HE3.out HR2.out hown3 hM3 hb3).mono (S' := fun k => w2.heap.size ≤ k) (fun k hk => by have := HE.out.size; omega))
             have HE4 := Lib.hid (show Ext w2 w4 from ext_of_mod ((HE.out.trans HE3.out).alloc _) hM3 (fun k hk => HT.out.mine k hk.symm))
             clear hown3 hM3 hb3)
          | fail)
        go_roundg (L.length - j - 1)
        case measure => omega
        case rel => exact ⟨j + 1, es ++ [(x, so2, cap2)], by omega, rfl, Lib.hid (take_succ_el HES.out HX.out _ _), HT3, HE4⟩
      · have c1 : decide ((j : Int) < (L.length : Int)) = false := decide_eq_false (by omega)
        have c1' : decide (j < L.length) = false := decide_eq_false hlt
        obtain rfl : j = L.length := by omega
        have hes : es.map Prod.fst = L := by
          have := HES.out
          rw [List.take_length] at this
          exact this
        have hb1 := HB1.out.ext HE.out
        have hb2 := HB2.out.ext HE.out
        have hM4 : Mod (fun k => k = w.heap.size) wr (wr.setCell ⟨w.heap.size, 4, none⟩ (.slice s0 es.length k0)) := (Mod.refl (fun k => k = w.heap.size) wr).setCell (p := ⟨w.heap.size, 4, none⟩) (.inl rfl) _
        have hb3 := hb1.setL s0 es.length k0
        have hb4 := hb2.keep hM4 (by omega)
        obtain ⟨p0, p1, p2, p3, p4⟩ := hb3.cells
        have f4 := hb1.free 4
        have g0 := hb4.free 0
        have g1 := hb4.free 1
        have g2 := hb4.free 2
        have g3 := hb4.free 3
        have g4 := hb4.free 4
        obtain ⟨a0, a1, a2, a3, a4⟩ := hb4.cells
        obtain ⟨r0, r1, r2, r3, r4⟩ := (hb4.fill k n f s s0 es.length k0).cells
        have hEw : Ext w (set5 (wr.setCell ⟨w.heap.size, 4, none⟩ (.slice s0 es.length k0)) (w.heap.size + 1) k n f s s0 es.length k0) :=
          ext_set5 (ext_set (HE2.out.trans HE.out) (Nat.le_refl _) _) (by omega) k n f s s0 es.length k0
        have hrow3 : RowIn (set5 (wr.setCell ⟨w.heap.size, 4, none⟩ (.slice s0 es.length k0)) (w.heap.size + 1) k n f s s0 es.length k0) true (fun q => w.heap.size ≤ q) L s0 0 := by
          have h := HT.out.row
          rw [hes] at h
          refine (h.keep (set5_mod (F := fun k => k = w.heap.size ∨ k = w.heap.size + 1) ((Mod.refl _ wr).setCell (p := ⟨w.heap.size, 4, none⟩) (.inl (.inl rfl)) _) (.inl (.inr rfl)) k n f s s0 es.length k0) (fun q hq e => by have := HS.out; omega)).mono (fun q hq => by have := HS.out; omega)
        have HX := Lib.hid (And.intro hEw hrow3)
        have HLL := Lib.hid hlen
        clear hes hb1 hb2 hM4 hb3 hb4 hEw hrow3 hlen
        go_wp2_with fail
        exact bodyPost_ret (v := .agg #[.int .i64 k, .int .i64 n, .float .f64 f, .string s, .slice s0 es.length k0]) (by simp [results, Try.f15, go_sem, r0, r1, r2, r3, r4]) rfl ⟨s0, k0, by unfold elV; rw [HLL.out]; rfl, HX.out.2, HX.out.1⟩

end Go.Proofs.Yteiognkbkpidiaa
