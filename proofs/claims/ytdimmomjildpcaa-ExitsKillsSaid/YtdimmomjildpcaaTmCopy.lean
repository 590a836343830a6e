/- Copies of terms. -/
import Derived.Test.YtdimmomjildpcaaTmRow
import Derived.Test.YtdimmomjildpcaaTmSet
namespace Go.Proofs.Ytdimmomjildpcaa
open Go.RowKit
attribute [local irreducible] Ext
attribute [local go_sem] run_store_float

/-- What a copy leaves. -/
def CopyPost (w : World) (t : Tm) (e : Ending) (w' : World) : Prop := ∃ so cap, e = .returned (elV t so cap) ∧ RowIn w' true (fun k => w.heap.size ≤ k) t.l so 0 ∧ Ext w w'

theorem take_succ_el {es : List El} {L : List Tm} {j : Nat} {x : Tm} (hes : es.map Prod.fst = L.take j) (hx : L[j]? = some x) (so : Option Addr) (cap : Nat) : (es ++ [((x, so, cap) : El)]).map Prod.fst = L.take (j + 1) := by
  rw [List.map_append, hes, List.take_add_one, hx]
  rfl

set_option maxRecDepth 100000 in
set_option maxHeartbeats 2000000 in
theorem copied_of (L : List Tm) (ih : ∀ x ∈ L, ∀ (own : Bool) (G : Nat → Prop) (v : Value) (w : World), TmV w own G v x → cntT x ≤ 100000000 → Calls Try.prog 25 #[v] w fun e w' => CopyPost w x e w')
    (own : Bool) (G : Nat → Prop) (so : Option Addr) (cap : Nat) (w : World) (hrow : RowIn w own G L so 0) (hc : cntL L ≤ 100000000) :
    Calls Try.prog 32 #[.slice so L.length cap] w fun e w' => ∃ so' cap' es, e = .returned (.slice so' L.length cap') ∧ es.map Prod.fst = L ∧ TRow w' (fun k => w.heap.size ≤ k) (.slice so' L.length cap') es ∧ Ext w w' := by
  have HIH := Lib.hid ih
  have hll := len_cnt L
  have HC := Lib.hid (And.intro hc hll)
  have HR := Lib.hid hrow
  obtain ⟨i0, hi, hz0, hz1, hz2⟩ := info_parts info5
  have HI := Lib.hid (And.intro hi (And.intro hz0 (And.intro hz1 hz2)))
  clear ih hrow hc hll hi hz0 hz1 hz2
  go_enter Try.func32, Try.ntmps32
  go_wp2_with fail
  go_loopg [3, 5, 8] L.length (fun g o x i wr => ∃ (j : Nat) (es : List El), j + g = L.length ∧ i = .int .i64 j ∧ Hid (es.map Prod.fst = L.take j) ∧ Hid (TRow wr (fun k => w.heap.size ≤ k) o es) ∧ Hid (Ext w wr))
  case atStart => exact ⟨0, [], by omega, rfl, Lib.hid rfl, Lib.hid (TRow.nil _ _), Lib.hid (Ext.refl w)⟩
  case round =>
    obtain ⟨j, es, hj, rfl, HES, HT, HE⟩ := hrel
    have hlen : es.length = j := by
      have := congrArg List.length HES.out
      rw [List.length_map, List.length_take] at this
      omega
    by_cases hlt : j < L.length
    · have c1 : decide ((j : Int) < (L.length : Int)) = true := decide_eq_true (by omega)
      have c1' : decide (j < L.length) = true := decide_eq_true hlt
      obtain ⟨x, hx⟩ : ∃ x, L[j]? = some x := ⟨L[j]'hlt, List.getElem?_eq_getElem hlt⟩
      obtain ⟨bb, oo, so', cap', rfl, q0, q1, q2, q3, q4, htm⟩ := (HR.out.ext HE.out).elem hx
      have hmem := List.mem_of_getElem? hx
      have hEw : Ext wr (wr.alloc (.cells #[.int .i64 x.kind, .int .i64 x.n, .float .f64 x.f, .string x.s, .slice so' x.l.length cap'] 25)) := (Ext.refl wr).alloc _
      have hcall := HIH.out x hmem own G _ _ (htm.ext hEw) (by have := HC.out; have := cnt_mem hmem; omega)
      unfold elV at hcall
      have e3 : IntKind.i64.wrap ((j : Int) + 1) = ((j + 1 : Nat) : Int) := by rw [IntWalk.i64_in _ (by have := HC.out; omega)]; rfl
      obtain ⟨s0, k0, rfl⟩ := HT.out.slice
      have HX := Lib.hid hx
      have HEw := Lib.hid hEw
      have HLJ := Lib.hid hlen
      clear htm hx hmem hEw
      go_wp2_with fail
      refine hcall.mono ?_
      rintro e w2 ⟨so2, cap2, rfl, hrow2, hE2⟩
      unfold elV
      have HE2 := Lib.hid hE2
      have HR2 := Lib.hid (hrow2.mono (G' := fun k => wr.heap.size ≤ k) (fun k hk => by have := HEw.out.size; omega))
      have hT2 := ((HT.out.ext HEw.out).ext hE2).own
      have HO := Lib.hid hT2
      have hsrc := src_el (w := w2.alloc (.cells #[.int .i64 x.kind, .int .i64 x.n, .float .f64 x.f, .string x.s, .slice so2 x.l.length cap2] 25)) (x, so2, cap2) (heap_alloc_new w2 _)
      have HSRC := Lib.hid hsrc
      clear hcall q0 q1 q2 q3 q4 hE2 hrow2 hT2 hsrc hlen
      go_wp2_with (first
        | (at_builtin
           obtain ⟨hi, hz0, hz1, hz2⟩ := HI.out
           refine wpList_app rfl (.tmp 12) (.tmp 15) 23 rfl 0 25 i0 (.agg #[.int .i64 0, .int .i64 0, .float .f64 0, .string ⟨#[]⟩, .slice none 0 0]) 5 64 Try.underlying23 hi hz0 hz1 hz2 rfl (by decide) _ _ _ rfl (HO.out.alloc _) (some ⟨w2.heap.size, 0, none⟩) 1 1 (elC (x, so2, cap2)) rfl rfl HSRC.out (elC_ones _) (by have := HC.out; have := HLJ.out; omega) (by decide) (Nat.zero_le _) ?_
           intro so3 cap3 w3 hown3 hM3 hb3
           have HT3 := Lib.hid ((HT.out.push (HEw.out.trans HE2.out) HR2.out hown3 hM3 hb3).mono (S' := fun k => w.heap.size ≤ k) (fun k hk => by have := HE.out.size; omega))
           have HE3 := Lib.hid (show Ext w w3 from ext_of_mod (((HE.out.trans HEw.out).trans HE2.out).alloc _) hM3 (fun k hk => HT.out.mine k hk.symm))
           clear hown3 hM3 hb3)
        | fail)
      go_roundg (L.length - j - 1)
      case measure => omega
      case rel => exact ⟨j + 1, es ++ [(x, so2, cap2)], by omega, rfl, Lib.hid (take_succ_el HES.out HX.out _ _), HT3, HE3⟩
    · have c1 : decide ((j : Int) < (L.length : Int)) = false := decide_eq_false (by omega)
      have c1' : decide (j < L.length) = false := decide_eq_false hlt
      obtain rfl : j = L.length := by omega
      obtain ⟨s0, k0, rfl⟩ := HT.out.slice
      go_wp2_with fail
      go_ret
      have hL : es.map Prod.fst = L := by
        have := HES.out
        rw [List.take_length] at this
        exact this
      rw [← hlen]
      exact ⟨s0, k0, es, rfl, hL, HT.out, HE.out⟩

set_option maxRecDepth 100000 in
set_option maxHeartbeats 2000000 in
theorem pcopy_any (t : Tm) : ∀ (own : Bool) (G : Nat → Prop) (v : Value) (w : World), TmV w own G v t → cntT t ≤ 100000000 → Calls Try.prog 25 #[v] w fun e w' => CopyPost w t e w' := by
  induction t using Tm.ind with
  | h t ih =>
    obtain ⟨k, n, f, s, L⟩ := t
    intro own G v w hv hcnt
    obtain ⟨so, cap, rfl, hrow⟩ := hv.parts
    simp only [Tm.l] at ih
    simp only [cntT] at hcnt
    clear hv
    have hE1 := (Ext.refl w).alloc (.cells #[.int .i64 k, .int .i64 n, .float .f64 f, .string s, .slice so L.length cap] 25)
    have hB1 := RBox.new w k n f s so L.length cap
    obtain ⟨w1, hw1⟩ : ∃ w1, w.alloc (.cells #[.int .i64 k, .int .i64 n, .float .f64 f, .string s, .slice so L.length cap] 25) = w1 := ⟨_, rfl⟩
    have hs1 : w1.heap.size = w.heap.size + 1 := by rw [← hw1]; simp
    rw [hw1] at hE1 hB1
    have hE2 := hE1.alloc (.cells #[.int .i64 0, .int .i64 0, .float .f64 0, .string ⟨#[]⟩, .slice none 0 0] 25)
    have hB2 := RBox.new w1 0 0 0 ⟨#[]⟩ none 0 0
    rw [hs1] at hB2
    have hB1' := hB1.ext ((Ext.refl w1).alloc (.cells #[.int .i64 0, .int .i64 0, .float .f64 0, .string ⟨#[]⟩, .slice none 0 0] 25))
    obtain ⟨w2, hw2⟩ : ∃ w2, w1.alloc (.cells #[.int .i64 0, .int .i64 0, .float .f64 0, .string ⟨#[]⟩, .slice none 0 0] 25) = w2 := ⟨_, rfl⟩
    have hs2 : w2.heap.size = w.heap.size + 2 := by rw [← hw2]; simp; omega
    rw [hw2] at hE2 hB2 hB1'
    have hcall := copied_of L ih own G so cap w2 (hrow.ext hE2) (by omega)
    obtain ⟨_, _, _, _, z4⟩ := hB1'.cells
    have HE2 := Lib.hid hE2
    have HB1 := Lib.hid hB1'
    have HB2 := Lib.hid hB2
    have HW1 := Lib.hid hw1
    have HW2 := Lib.hid hw2
    have HS := Lib.hid hs2
    clear ih hrow hcnt hE1 hE2 hB1 hB2 hB1' hw1 hw2 hs1 hs2
    go_enter Try.func25, Try.ntmps25
    go_upto_region 1 with (fail)
    rw [HW1.out, HW2.out]
    go_wp2_with fail
    refine hcall.mono ?_
    rintro e w3 ⟨so3, cap3, es, rfl, hes, hT, hE3⟩
    have hb1 := HB1.out.ext hE3
    have hb2 := HB2.out.ext hE3
    have hM4 : Mod (fun k => k = w.heap.size) w3 (w3.setCell ⟨w.heap.size, 4, none⟩ (.slice so3 L.length cap3)) := (Mod.refl (fun k => k = w.heap.size) w3).setCell (p := ⟨w.heap.size, 4, none⟩) (.inl rfl) _
    have hb3 := hb1.setL so3 L.length cap3
    have hb4 := hb2.keep hM4 (by omega)
    obtain ⟨p0, p1, p2, p3, p4⟩ := hb3.cells
    have f4 := hb1.free 4
    have g0 := hb4.free 0
    have g1 := hb4.free 1
    have g2 := hb4.free 2
    have g3 := hb4.free 3
    have g4 := hb4.free 4
    obtain ⟨a0, a1, a2, a3, a4⟩ := hb4.cells
    obtain ⟨_, _, _, _, d4⟩ := hb1.cells
    obtain ⟨r0, r1, r2, r3, r4⟩ := (hb4.fill k n f s so3 L.length cap3).cells
    have hEw : Ext w (set5 (w3.setCell ⟨w.heap.size, 4, none⟩ (.slice so3 L.length cap3)) (w.heap.size + 1) k n f s so3 L.length cap3) :=
      ext_set5 (ext_set (HE2.out.trans hE3) (Nat.le_refl _) _) (by omega) k n f s so3 L.length cap3
    have hrow3 : RowIn (set5 (w3.setCell ⟨w.heap.size, 4, none⟩ (.slice so3 L.length cap3)) (w.heap.size + 1) k n f s so3 L.length cap3) true (fun q => w.heap.size ≤ q) L so3 0 := by
      have h := hT.row
      rw [hes] at h
      refine (h.keep (set5_mod (F := fun k => k = w.heap.size ∨ k = w.heap.size + 1) ((Mod.refl _ w3).setCell (p := ⟨w.heap.size, 4, none⟩) (.inl (.inl rfl)) _) (.inl (.inr rfl)) k n f s so3 L.length cap3) (fun q hq e => by have := HS.out; omega)).mono (fun q hq => by have := HS.out; omega)
    have HX := Lib.hid (And.intro hEw hrow3)
    clear hcall hes hT hE3 hb1 hb2 hM4 hb3 hb4 hEw hrow3 z4 HB1 HB2 HE2 HW1 HW2
    go_wp2_with fail
    exact bodyPost_ret (v := .agg #[.int .i64 k, .int .i64 n, .float .f64 f, .string s, .slice so3 L.length cap3]) (by simp [results, Try.f25, go_sem, r0, r1, r2, r3, r4]) rfl ⟨so3, cap3, rfl, HX.out.2, HX.out.1⟩

end Go.Proofs.Ytdimmomjildpcaa
