/- An inbox: Next, out, Take, Rewind. -/
import Derived.Test.YteiognkbkpidiaaInBox
namespace Go.Proofs.Yteiognkbkpidiaa
open Go.RowKit
attribute [local irreducible] Ext
attribute [local go_sem] run_store_float

/-- What Next leaves where there is a message more. -/
def NextPost (w : World) (S : Nat → Prop) (b : Nat) (most words place : Int) (v : Value) (es : List El) (t : Tm) (e : Ending) (w' : World) : Prop :=
  ∃ so cap, e = .returned (.tuple #[elV t so cap, .bool true]) ∧ RowIn w' true (fun k => w.heap.size ≤ k) t.l so 0 ∧ BoxV w' S b most words place v es ∧ Mod S w w'

/-- What out leaves. -/
def OutPost (w : World) (S : Nat → Prop) (b : Nat) (most words place : Int) (v : Value) (es : List El) (e0 : El) (e : Ending) (w' : World) : Prop :=
  e = .returned (elV e0.1 e0.2.1 e0.2.2) ∧ ∃ v', BoxV w' S b most words place v' es ∧ RowIn w' true (fun k => S k ∧ some k ≠ v.ownBlock) e0.1.l e0.2.1 0 ∧ Mod S w w'

section
variable {S : Nat → Prop} {b : Nat} {most words : Int} {v : Value} {es : List El}

set_option maxRecDepth 100000 in
set_option maxHeartbeats 2000000 in
theorem next_none (w : World) (h : BoxV w S b most words (es.length : Int) v es) :
    Calls Try.prog 11 #[.pointer (some ⟨b, 0, none⟩)] w fun e w' => e = .returned (.tuple #[.agg #[.int .i64 0, .int .i64 0, .float .f64 0, .string ⟨#[]⟩, .slice none 0 0], .bool false]) ∧ Ext w w' := by
  have hE1 := (Ext.refl w).alloc (.cells #[.int .i64 0, .int .i64 0, .float .f64 0, .string ⟨#[]⟩, .slice none 0 0] 27)
  have hz := RBox.new w 0 0 0 ⟨#[]⟩ none 0 0
  obtain ⟨so, cap, rfl⟩ := h.row.slice
  have h1 := h.ext hE1
  obtain ⟨w1, hw1⟩ : ∃ w1, w.alloc (.cells #[.int .i64 0, .int .i64 0, .float .f64 0, .string ⟨#[]⟩, .slice none 0 0] 27) = w1 := ⟨_, rfl⟩
  rw [hw1] at hE1 hz h1
  obtain ⟨c0, c1, c2, c3, _⟩ := h1.cells
  have HE := Lib.hid hE1
  have HZ := Lib.hid hz
  have HW := Lib.hid hw1
  clear h h1 hE1 hz hw1
  go_enter Try.func11, Try.ntmps11
  go_upto_region 1 with (fail)
  rw [HW.out]
  go_quiet (fail)
  have hz2 := HZ.out.ext ((Ext.refl w1).drewN nq)
  have g0 := hz2.free 0
  have g1 := hz2.free 1
  have g2 := hz2.free 2
  have g3 := hz2.free 3
  have g4 := hz2.free 4
  obtain ⟨a0, a1, a2, a3, a4⟩ := hz2.cells
  have hEq := HE.out.drewN nq
  obtain ⟨r0, r1, r2, r3, r4⟩ := (hz2.fill 0 0 0 ⟨#[]⟩ none 0 0).cells
  have HX := Lib.hid (ext_set5 hEq (Nat.le_refl _) 0 0 0 ⟨#[]⟩ none 0 0)
  clear hz2 hEq c0 c1 c2 c3
  go_wp2_with fail
  exact bodyPost_ret (v := .tuple #[.agg #[.int .i64 0, .int .i64 0, .float .f64 0, .string ⟨#[]⟩, .slice none 0 0], .bool false]) (by simp [results, Try.f11, go_sem, r0, r1, r2, r3, r4]) rfl ⟨rfl, HX.out⟩

set_option maxRecDepth 100000 in
set_option maxHeartbeats 2000000 in
theorem next_some (w : World) {p : Nat} {e0 : El} (h : BoxV w S b most words (p : Int) v es) (he : es[p]? = some e0) (hl : es.length ≤ 100000000) (hc : cntT e0.1 ≤ 100000000) :
    Calls Try.prog 11 #[.pointer (some ⟨b, 0, none⟩)] w fun e w' => NextPost w S b most words ((p : Int) + 1) v es e0.1 e w' := by
  have hp := (List.getElem?_eq_some_iff.1 he).1
  have hE1 := (Ext.refl w).alloc (.cells #[.int .i64 0, .int .i64 0, .float .f64 0, .string ⟨#[]⟩, .slice none 0 0] 27)
  have hz := RBox.new w 0 0 0 ⟨#[]⟩ none 0 0
  have h1 := h.bound.ext hE1
  obtain ⟨w1, hw1⟩ : ∃ w1, w.alloc (.cells #[.int .i64 0, .int .i64 0, .float .f64 0, .string ⟨#[]⟩, .slice none 0 0] 27) = w1 := ⟨_, rfl⟩
  have hs1 : w1.heap.size = w.heap.size + 1 := by rw [← hw1]; simp
  rw [hw1] at hE1 hz h1
  obtain ⟨g, cap, cur, rfl, hcap, hSg, hg, _⟩ := h.row.at_ he
  obtain ⟨c0, c1, c2, c3, f0, f1, f2, f3⟩ := h1.cells
  have hb := h.lt
  have s0 : ((p : Int) == (es.length : Int)) = false := beq_eq_false_iff_ne.2 (by omega)
  have e1 : IntKind.i64.wrap ((p : Int) + 1) = (p : Int) + 1 := IntWalk.i64_in _ (by omega)
  have e2 : IntKind.i64.wrap (p : Int) = (p : Int) := IntWalk.i64_in _ (by omega)
  have s1 : (0 : Int) ≤ (p : Int) := by omega
  have s2 : (p : Int) < (es.length : Int) := by omega
  have HE := Lib.hid hE1
  have HZ := Lib.hid hz
  have HW := Lib.hid hw1
  have H1 := Lib.hid h1
  have HS := Lib.hid (And.intro hs1 hb)
  have HM := Lib.hid (And.intro h.mine he)
  clear h h1 hE1 hz hw1 hs1 hb he hSg hg
  go_enter Try.func11, Try.ntmps11
  go_upto_region 1 with (fail)
  rw [HW.out]
  go_quiet (fail)
  have h2 := H1.out.ext ((Ext.refl w1).drewN nq)
  have hE2 := HE.out.drewN nq
  have hz2 := HZ.out.ext ((Ext.refl w1).drewN nq)
  clear c0 c1 c2 c3 f0 f1 f2 f3
  generalize hw2 : w1.drewN nq = w2 at h2 hE2 hz2 ⊢
  have hs2 : w2.heap.size = w.heap.size + 1 := by rw [← hw2]; exact HS.out.1
  obtain ⟨c0, c1, c2, c3, f0, f1, f2, f3⟩ := h2.cells
  have h3 := h2.setPlace ((p : Int) + 1)
  have hM3 : Mod S w (w2.setCell ⟨b, 3, none⟩ (.int .i64 ((p : Int) + 1))) := (mod_of_ext hE2).trans (box_mod HM.out.1 3 _) (fun _ _ h => h)
  have hz3 := hz2.keep ((Mod.refl (fun k => k = b) w2).setCell (p := ⟨b, 3, none⟩) (.inl rfl) (.int .i64 ((p : Int) + 1))) (by have := HS.out.2; omega)
  clear hw2 hE2 hz2 h2
  go_upto_region 4 with (fail)
  generalize hw3 : w2.setCell ⟨b, 3, none⟩ (.int .i64 ((p : Int) + 1)) = w3 at h3 hM3 hz3 ⊢
  have hs3 : w3.heap.size = w.heap.size + 1 := by rw [← hw3, ← hs2]; simp [World.setCell]
  clear hw3 c0 c1 c2 c3 f0 f1 f2 f3
  obtain ⟨c0, c1, c2, c3, f0, f1, f2, f3⟩ := h3.cells
  obtain ⟨g', cap', cur', hv, hcap', hSg, hg, q0, q1, q2, q3, q4⟩ := h3.row.at_ HM.out.2
  injection hv with e1' _ e3'
  injection e1' with e1'
  injection e1' with e1'
  subst e1' e3'
  have hsub := h3.row.sub e0 (List.mem_of_getElem? HM.out.2)
  have hcall := pcopy_any e0.1 true _ _ w3.drew ((TmV.mk' (cap := e0.2.2) hsub).ext (Ext.refl w3).drew) hc
  unfold elV at hcall
  have H3 := Lib.hid h3
  have HM3 := Lib.hid hM3
  have HZ3 := Lib.hid hz3
  have HS3 := Lib.hid hs3
  clear h3 hM3 hz3 hs3 hsub hg hs2 HE HZ HW H1
  go_region_law (first
    | (go_simp; go_at_call 26; (with_reducible refine hcall.mono ?_); rintro e w4 ⟨so4, cap4, rfl, hrow4, hE4⟩; have hE4' := (Ext.refl w3).drew.trans hE4; have hz4 := HZ3.out.ext hE4'; have g0 := hz4.free 0; have g1 := hz4.free 1; have g2 := hz4.free 2; have g3 := hz4.free 3; have g4 := hz4.free 4; obtain ⟨a0, a1, a2, a3, a4⟩ := hz4.cells; unfold elV; have HR4 := Lib.hid (And.intro hrow4 hE4'); clear hrow4 hE4 hE4' hz4)
    | fail)
  all_goals go_wp2
  all_goals
    have hz4 := HZ3.out.ext HR4.out.2
    obtain ⟨r0, r1, r2, r3, r4⟩ := (hz4.fill e0.1.kind e0.1.n e0.1.f e0.1.s so4 e0.1.l.length cap4).cells
    have hM5 : Mod S w (set5 w4 w.heap.size e0.1.kind e0.1.n e0.1.f e0.1.s so4 e0.1.l.length cap4) := set5_mod (HM3.out.trans (mod_of_ext HR4.out.2) (fun _ _ h => h)) (.inr (Nat.le_refl _)) _ _ _ _ _ _ _
    have hMz : Mod (fun k => k = w.heap.size) w4 (set5 w4 w.heap.size e0.1.kind e0.1.n e0.1.f e0.1.s so4 e0.1.l.length cap4) := set5_mod (F := fun k => k = w.heap.size) (Mod.refl _ w4) (.inl rfl) _ _ _ _ _ _ _
    have hrow5 := (HR4.out.1.keep hMz (fun k hk e => by have := HS3.out; have : w3.drew.heap.size = w3.heap.size := rfl; omega)).mono (G' := fun k => w.heap.size ≤ k) (fun k hk => by have := HS3.out; have : w3.drew.heap.size = w3.heap.size := rfl; omega)
    have hB5 := ((H3.out.ext HR4.out.2).keep hMz (fun k e hk => by omega)).mono (S' := S) (fun k hk => hk.1)
    exact bodyPost_ret (v := .tuple #[.agg #[.int .i64 e0.1.kind, .int .i64 e0.1.n, .float .f64 e0.1.f, .string e0.1.s, .slice so4 e0.1.l.length cap4], .bool true]) (by simp [results, Try.f11, go_sem, r0, r1, r2, r3, r4]) rfl ⟨so4, cap4, rfl, hrow5, hB5, hM5⟩

set_option maxRecDepth 100000 in
set_option maxHeartbeats 2000000 in
theorem out_any (w : World) {place : Int} {i : Nat} {e0 : El} (h : BoxV w S b most words place v es) (he : es[i]? = some e0) (hl : es.length ≤ 100000000) (hc : cntT e0.1 ≤ 100000000) (hok : okT e0.1) (hw0 : -1000000000 ≤ words) (hw1 : words ≤ 1000000000) :
    Calls Try.prog 28 #[.pointer (some ⟨b, 0, none⟩), .int .i64 i] w fun e w' => OutPost w S b most (words - (wordsT e0.1 + 2)) place v (es.eraseIdx i) e0 e w' := by
  have hi := (List.getElem?_eq_some_iff.1 he).1
  have hE1 := (Ext.refl w).alloc (.cells #[.int .i64 0, .int .i64 0, .float .f64 0, .string ⟨#[]⟩, .slice none 0 0] 27)
  have hz := RBox.new w 0 0 0 ⟨#[]⟩ none 0 0
  have h1 := h.bound.ext hE1
  have hwr := words_range e0.1
  obtain ⟨n, hn⟩ : ∃ n, wordsT e0.1 = n := ⟨_, rfl⟩
  rw [hn] at hwr ⊢
  obtain ⟨w1, hw1'⟩ : ∃ w1, w.alloc (.cells #[.int .i64 0, .int .i64 0, .float .f64 0, .string ⟨#[]⟩, .slice none 0 0] 27) = w1 := ⟨_, rfl⟩
  have hs1 : w1.heap.size = w.heap.size + 1 := by rw [← hw1']; simp
  rw [hw1'] at hE1 hz h1
  obtain ⟨g, cap, cur, rfl, hcap, hSg, hg, q0, q1, q2, q3, q4⟩ := h1.row.at_ he
  obtain ⟨c0, c1, c2, c3, f0, f1, f2, f3⟩ := h1.cells
  have hb := h.lt
  have hE2 := hE1.alloc (.cells #[.int .i64 e0.1.kind, .int .i64 e0.1.n, .float .f64 e0.1.f, .string e0.1.s, .slice e0.2.1 e0.1.l.length e0.2.2] 27)
  have hE12 := (Ext.refl w1).alloc (.cells #[.int .i64 e0.1.kind, .int .i64 e0.1.n, .float .f64 e0.1.f, .string e0.1.s, .slice e0.2.1 e0.1.l.length e0.2.2] 27)
  have hx := RBox.new w1 e0.1.kind e0.1.n e0.1.f e0.1.s e0.2.1 e0.1.l.length e0.2.2
  have hz2 := hz.ext hE12
  have h2 := h1.ext hE12
  have e1 : IntKind.i64.wrap ((i : Int) + 1) = (i : Int) + 1 := IntWalk.i64_in _ (by omega)
  have e2 : IntKind.i64.wrap (words - (n + 2)) = words - (n + 2) := IntWalk.i64_in _ (by omega)
  have s1 : (0 : Int) ≤ (i : Int) := by omega
  have s2 : (i : Int) < (es.length : Int) := by omega
  have HW := Lib.hid hw1'
  have HS := Lib.hid (And.intro hs1 (And.intro hb (And.intro h.mine he)))
  have HE := Lib.hid hE2
  have H2 := Lib.hid (And.intro h2 (And.intro hz2 hx))
  have HN := Lib.hid hn
  clear h h1 hE1 hz hw1' hs1 hb he hSg hg hE2 hE12 hx hz2 h2 hn hwr hw0 hw1
  go_enter Try.func28, Try.ntmps28
  go_upto_region 1 with (fail)
  rw [HW.out]
  go_upto_region 2 with (fail)
  obtain ⟨w2, hw2⟩ : ∃ w2, w1.alloc (.cells #[.int .i64 e0.1.kind, .int .i64 e0.1.n, .float .f64 e0.1.f, .string e0.1.s, .slice e0.2.1 e0.1.l.length e0.2.2] 27) = w2 := ⟨_, rfl⟩
  rw [hw2] at HE H2 ⊢
  have hs2 : w2.heap.size = w1.heap.size + 1 := by rw [← hw2]; simp
  clear hw2 c0 c1 c2 c3 f0 f1 f2 f3 q0 q1 q2 q3 q4
  obtain ⟨h2, hz2, hx2⟩ := H2.out
  obtain ⟨c0, c1, c2, c3, f0, f1, f2, f3⟩ := h2.cells
  have hdel := delete_any w2 h2.row i hi hl
  rw [show ((i + 1 : Nat) : Int) = (i : Int) + 1 from rfl] at hdel
  have hlt := h2.row.mine g rfl
  have HS2 := Lib.hid (And.intro hs2 hlt)
  clear h2 hz2 hx2 hs2 hlt
  go_wp2_with fail
  refine hdel.mono ?_
  rintro e w3 ⟨v', rfl, hov, hrow, hM3⟩
  obtain ⟨h2, hz2, hx2⟩ := H2.out
  obtain ⟨hs1, hb, hmine, he⟩ := HS.out
  obtain ⟨hs2, hgS, hglt⟩ := HS2.out
  have hne : ∀ k, g ≠ k → ¬ (some k = (Value.slice (some ⟨g, 0, none⟩) es.length cap).ownBlock) := fun k hk e => hk (Option.some.inj e).symm
  have hblk : w3.heap[b]? = some (.cells #[.int .i64 most, .int .i64 words, .slice (some ⟨g, 0, none⟩) es.length cap, .int .i64 place] 59 (0, 0)) := hM3.keep h2.blk (hne b (fun e => by
    obtain ⟨cur', hc'⟩ := own_blk h2.row.own (k := g) rfl
    rw [e, h2.blk] at hc'
    injection hc' with hc'
    injection hc' with _ e
    exact absurd e (by decide)))
  have hB4 : BoxV (w3.setCell ⟨b, 2, none⟩ v') (fun k => S k ∧ k < w.heap.size) b most words place v' (es.eraseIdx i) := BoxV.setRow hblk h2.mine hrow
  have hsub4 := ((h2.row.sub e0 (List.mem_of_getElem? he)).types.keep hM3 (fun k hk e => hk.1.2 e))
  have hsub5 := hsub4.keep ((Mod.refl (fun k => k = b) w3).setCell (p := ⟨b, 2, none⟩) (.inl rfl) v') (fun k hk e => by
    obtain ⟨cur', hc'⟩ := hk.2
    rw [e, h2.blk] at hc'
    injection hc' with hc'
    injection hc' with _ e
    exact absurd e (by decide))
  have hMb : Mod (fun k => k = b) w3 (w3.setCell ⟨b, 2, none⟩ v') := (Mod.refl (fun k => k = b) w3).setCell (p := ⟨b, 2, none⟩) (.inl rfl) v'
  have hz4 := (hz2.keep hM3 (hne _ (by omega))).keep hMb (by omega)
  have hx4 := (hx2.keep hM3 (hne _ (by omega))).keep hMb (by omega)
  have hM4 : Mod S w (w3.setCell ⟨b, 2, none⟩ v') := ((mod_of_ext HE.out).trans hM3 (fun k _ e => by rw [Option.some.inj e]; exact hgS)).trans (box_mod hmine 2 v') (fun _ _ h => h)
  have hfb : w3.frozen? ⟨b, 2, none⟩ = false := free_of_heap hblk 2
  have hcb : w3.cell? ⟨b, 2, none⟩ = some (.slice (some ⟨g, 0, none⟩) es.length cap) := by simp [cell_of_heap hblk]
  obtain ⟨so', sc', rfl⟩ := own_slice hrow.own
  have hs4 : (w3.setCell ⟨b, 2, none⟩ (.slice so' (es.eraseIdx i).length sc')).heap.size = w3.heap.size := by simp [World.setCell]
  have H4 := Lib.hid (And.intro hB4 (And.intro hsub5 (And.intro hz4 (And.intro hx4 (And.intro hM4 (And.intro hs4 hM3.size))))))
  clear hdel hov hrow hM3 h2 hz2 hx2 hs1 hmine he hs2 hgS hglt hne hblk hB4 hsub4 hsub5 hz4 hx4 hM4 hMb hs4 c0 c1 c2 c3 f0 f1 f2 f3 H2
  go_upto_region 3 with (fail)
  generalize w3.setCell ⟨b, 2, none⟩ (.slice so' (es.eraseIdx i).length sc') = w4 at H4 ⊢
  obtain ⟨hB4, hsub4, hz4, hx4, hM4, hs4, hs34⟩ := H4.out
  obtain ⟨c0, c1, c2, c3, f0, f1, f2, f3⟩ := hB4.cells
  obtain ⟨q0, q1, q2, q3, q4⟩ := hx4.cells
  have hcost := cost_any (t := e0.1) w4.drew ((TmV.mk' (cap := e0.2.2) hsub4).ext (Ext.refl w4).drew) hc hok
  rw [HN.out] at hcost
  unfold elV at hcost
  clear hB4 hsub4 hz4 hx4 hM4 hs4 hs34 hfb hcb
  go_cut [24] from 25 to 32 (fun _ wx => Hid (∃ w5, Ext w4 w5 ∧ wx = w5.setCell ⟨b, 1, none⟩ (.int .i64 (words - (n + 2)))))
  case first =>
    go_region_law (first
      | (go_simp; go_at_call 25; (with_reducible refine hcost.mono ?_); rintro e w5 ⟨rfl, hE5⟩; have hE5 := (Ext.refl w4).drew.trans hE5; obtain ⟨d0, d1, d2, d3, g0, g1, g2, g3⟩ := (H4.out.1.ext hE5).cells; have HE5 := Lib.hid hE5; clear hE5)
      | fail)
    all_goals go_wp2
    all_goals go_meet
    all_goals exact Lib.hid ⟨w5, HE5.out, rfl⟩
  case rest =>
    obtain ⟨w5, hE5, rfl⟩ := hcut.out
    clear hcut
    obtain ⟨hB4, hsub4, hz4, hx4, hM4, hs4, hs34⟩ := H4.out
    obtain ⟨hs1, hb, hmine, he⟩ := HS.out
    obtain ⟨hs2, hgS, hglt⟩ := HS2.out
    have hB6 := (hB4.ext hE5).setWords (words - (n + 2))
    have hMb : Mod (fun k => k = b) w5 (w5.setCell ⟨b, 1, none⟩ (.int .i64 (words - (n + 2)))) := (Mod.refl (fun k => k = b) w5).setCell (p := ⟨b, 1, none⟩) (.inl rfl) _
    have hz6 := (hz4.ext hE5).keep hMb (by omega)
    have hx6 := (hx4.ext hE5).keep hMb (by omega)
    have hblk5 := (hB4.ext hE5).blk
    have hsub6 := (hsub4.ext hE5).types.keep hMb (fun k hk e => by
      obtain ⟨cur', hc'⟩ := hk.2
      rw [e, hblk5] at hc'
      injection hc' with hc'
      injection hc' with _ e
      exact absurd e (by decide))
    have hM6 : Mod S w (w5.setCell ⟨b, 1, none⟩ (.int .i64 (words - (n + 2)))) := (hM4.trans (mod_of_ext hE5) (fun _ _ h => h)).trans (box_mod hmine 1 _) (fun _ _ h => h)
    clear c0 c1 c2 c3 f0 f1 f2 f3 q0 q1 q2 q3 q4 hcost hB4 hsub4 hz4 hx4 hM4 hs4 hs34 hE5 hMb hblk5
    generalize w5.setCell ⟨b, 1, none⟩ (.int .i64 (words - (n + 2))) = w6 at hB6 hz6 hx6 hsub6 hM6 ⊢
    obtain ⟨q0, q1, q2, q3, q4⟩ := hx6.cells
    have g0 := hz6.free 0
    have g1 := hz6.free 1
    have g2 := hz6.free 2
    have g3 := hz6.free 3
    have g4 := hz6.free 4
    obtain ⟨a0, a1, a2, a3, a4⟩ := hz6.cells
    obtain ⟨r0, r1, r2, r3, r4⟩ := (hz6.fill e0.1.kind e0.1.n e0.1.f e0.1.s e0.2.1 e0.1.l.length e0.2.2).cells
    have hMz : Mod (fun k => k = w.heap.size) w6 (set5 w6 w.heap.size e0.1.kind e0.1.n e0.1.f e0.1.s e0.2.1 e0.1.l.length e0.2.2) := set5_mod (F := fun k => k = w.heap.size) (Mod.refl _ w6) (.inl rfl) _ _ _ _ _ _ _
    have hM7 : Mod S w (set5 w6 w.heap.size e0.1.kind e0.1.n e0.1.f e0.1.s e0.2.1 e0.1.l.length e0.2.2) := set5_mod hM6 (.inr (Nat.le_refl _)) _ _ _ _ _ _ _
    have hB7 := (hB6.keep hMz (fun k e hk => by omega)).mono (S' := S) (fun k hk => hk.1)
    have hsub7 := (hsub6.keep hMz (fun k hk e => by have := hk.1.1.1.2; omega)).mono (G' := fun k => S k ∧ some k ≠ (Value.slice (some ⟨g, 0, none⟩) es.length cap).ownBlock) (fun k hk => ⟨hk.1.1.1.1, hk.1.1.2⟩)
    have HX := Lib.hid (And.intro hB7 (And.intro hsub7 hM7))
    clear hB6 hz6 hx6 hsub6 hM6 hMz hM7 hB7 hsub7 hs1 hb hmine he hs2 hgS hglt H4
    go_wp2_with fail
    exact bodyPost_ret (v := .agg #[.int .i64 e0.1.kind, .int .i64 e0.1.n, .float .f64 e0.1.f, .string e0.1.s, .slice e0.2.1 e0.1.l.length e0.2.2]) (by simp [results, Try.f28, go_sem, r0, r1, r2, r3, r4]) rfl ⟨rfl, _, HX.out.1, HX.out.2.1, HX.out.2.2⟩
end

end Go.Proofs.Yteiognkbkpidiaa
