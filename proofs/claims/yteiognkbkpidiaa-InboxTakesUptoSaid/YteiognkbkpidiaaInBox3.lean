/- An inbox: Take, Rewind. -/
import Derived.Test.YteiognkbkpidiaaInBox2
namespace Go.Proofs.Yteiognkbkpidiaa
open Go.RowKit
attribute [local irreducible] Ext
attribute [local go_sem] run_store_float

/-- What Take leaves. -/
def TakePost (w : World) (S : Nat → Prop) (b : Nat) (most words place : Int) (v : Value) (es : List El) (e0 : El) (e : Ending) (w' : World) : Prop :=
  e = .returned (.tuple #[elV e0.1 e0.2.1 e0.2.2, .int .i64 0]) ∧ ∃ v', BoxV w' S b most words place v' es ∧ RowIn w' true (fun k => S k ∧ some k ≠ v.ownBlock) e0.1.l e0.2.1 0 ∧ Mod S w w'

section
variable {S : Nat → Prop} {b : Nat} {most words : Int} {v : Value} {es : List El}

set_option maxRecDepth 100000 in
set_option maxHeartbeats 1000000 in
theorem take_none (w : World) (h : BoxV w S b most words 0 v es) :
    Calls Try.prog 13 #[.pointer (some ⟨b, 0, none⟩)] w fun e w' => e = .returned (.tuple #[.agg #[.int .i64 0, .int .i64 0, .float .f64 0, .string ⟨#[]⟩, .slice none 0 0], .int .i64 5]) ∧ Ext w w' := by
  have hE1 := (Ext.refl w).alloc (.cells #[.int .i64 0, .int .i64 0, .float .f64 0, .string ⟨#[]⟩, .slice none 0 0] 27)
  have hz := RBox.new w 0 0 0 ⟨#[]⟩ none 0 0
  have h1 := h.ext hE1
  obtain ⟨w1, hw1⟩ : ∃ w1, w.alloc (.cells #[.int .i64 0, .int .i64 0, .float .f64 0, .string ⟨#[]⟩, .slice none 0 0] 27) = w1 := ⟨_, rfl⟩
  rw [hw1] at hE1 hz h1
  obtain ⟨c0, c1, c2, c3, _⟩ := h1.cells
  have g0 := hz.free 0
  have g1 := hz.free 1
  have g2 := hz.free 2
  have g3 := hz.free 3
  have g4 := hz.free 4
  obtain ⟨a0, a1, a2, a3, a4⟩ := hz.cells
  obtain ⟨r0, r1, r2, r3, r4⟩ := (hz.fill 0 0 0 ⟨#[]⟩ none 0 0).cells
  have HX := Lib.hid (ext_set5 hE1 (Nat.le_refl _) 0 0 0 ⟨#[]⟩ none 0 0)
  have HW := Lib.hid hw1
  clear h h1 hE1 hz hw1
  go_enter Try.func13, Try.ntmps13
  go_upto_region 1 with (fail)
  rw [HW.out]
  go_wp2_with fail
  exact bodyPost_ret (v := .tuple #[.agg #[.int .i64 0, .int .i64 0, .float .f64 0, .string ⟨#[]⟩, .slice none 0 0], .int .i64 5]) (by simp [results, Try.f13, go_sem, r0, r1, r2, r3, r4]) rfl ⟨rfl, HX.out⟩

set_option maxRecDepth 100000 in
set_option maxHeartbeats 2000000 in
theorem take_some (w : World) {p : Nat} {e0 : El} (h : BoxV w S b most words ((p : Int) + 1) v es) (he : es[p]? = some e0) (hl : es.length ≤ 100000000) (hc : cntT e0.1 ≤ 100000000) (hok : okT e0.1) (hw0 : -1000000000 ≤ words) (hw1 : words ≤ 1000000000) :
    Calls Try.prog 13 #[.pointer (some ⟨b, 0, none⟩)] w fun e w' => TakePost w S b most (words - (wordsT e0.1 + 2)) 0 v (es.eraseIdx p) e0 e w' := by
  have hp := (List.getElem?_eq_some_iff.1 he).1
  have hE1 := (Ext.refl w).alloc (.cells #[.int .i64 0, .int .i64 0, .float .f64 0, .string ⟨#[]⟩, .slice none 0 0] 27)
  have hz := RBox.new w 0 0 0 ⟨#[]⟩ none 0 0
  have h1 := h.bound.ext hE1
  obtain ⟨w1, hw1'⟩ : ∃ w1, w.alloc (.cells #[.int .i64 0, .int .i64 0, .float .f64 0, .string ⟨#[]⟩, .slice none 0 0] 27) = w1 := ⟨_, rfl⟩
  rw [hw1'] at hE1 hz h1
  obtain ⟨c0, c1, c2, c3, f0, f1, f2, f3⟩ := h1.cells
  have hout := out_any w1 h1 he hl hc hok hw0 hw1
  obtain ⟨n, hn⟩ : ∃ n, words - (wordsT e0.1 + 2) = n := ⟨_, rfl⟩
  rw [hn] at hout ⊢
  have s0 : ((p : Int) + 1 == 0) = false := beq_eq_false_iff_ne.2 (by omega)
  have e2 : IntKind.i64.wrap (p : Int) = (p : Int) := IntWalk.i64_in _ (by omega)
  have HW := Lib.hid hw1'
  have HE := Lib.hid (And.intro hE1 (And.intro hz (And.intro h.lt h.mine)))
  clear h h1 hE1 hz hw1' hn hw0 hw1 he
  go_enter Try.func13, Try.ntmps13
  go_upto_region 1 with (fail)
  rw [HW.out]
  go_wp2_with fail
  refine hout.mono ?_
  rintro e w2 ⟨rfl, v', hB2, hsub2, hM2⟩
  obtain ⟨hE1, hz, hblt, hmine⟩ := HE.out
  have hz2 := hz.keep hM2 (fun hk => by omega)
  have hEx := (Ext.refl w2).alloc (.cells #[.int .i64 e0.1.kind, .int .i64 e0.1.n, .float .f64 e0.1.f, .string e0.1.s, .slice e0.2.1 e0.1.l.length e0.2.2] 27)
  have hx3 := RBox.new w2 e0.1.kind e0.1.n e0.1.f e0.1.s e0.2.1 e0.1.l.length e0.2.2
  have hB3 := hB2.ext hEx
  have hsub3 := hsub2.ext hEx
  have hz3 := hz2.ext hEx
  have hlt2 := hB2.lt
  have hM3 : Mod S w (w2.alloc (.cells #[.int .i64 e0.1.kind, .int .i64 e0.1.n, .float .f64 e0.1.f, .string e0.1.s, .slice e0.2.1 e0.1.l.length e0.2.2] 27)) := ((mod_of_ext hE1).trans hM2 (fun k _ hk => hk.1)).trans (mod_of_ext hEx) (fun _ _ h => h)
  unfold elV
  have H3 := Lib.hid (And.intro hB3 (And.intro hsub3 (And.intro hz3 (And.intro hx3 (And.intro hM3 hlt2)))))
  clear hout hB2 hsub2 hM2 hE1 hz hblt hmine hz2 hEx hx3 hB3 hsub3 hz3 hM3 hlt2 c0 c1 c2 c3 f0 f1 f2 f3
  go_upto_region 4 with (fail)
  generalize hw3 : w2.alloc (.cells #[.int .i64 e0.1.kind, .int .i64 e0.1.n, .float .f64 e0.1.f, .string e0.1.s, .slice e0.2.1 e0.1.l.length e0.2.2] 27) = w3 at H3 ⊢
  have hs3 : w3.heap.size = w2.heap.size + 1 := by rw [← hw3]; simp
  obtain ⟨hB3, hsub3, hz3, hx3, hM3, hlt2⟩ := H3.out
  obtain ⟨hE1, hz, hblt, hmine⟩ := HE.out
  have hB4 := hB3.setPlace 0
  have hMb : Mod (fun k => k = b) w3 (w3.setCell ⟨b, 3, none⟩ (.int .i64 0)) := (Mod.refl (fun k => k = b) w3).setCell (p := ⟨b, 3, none⟩) (.inl rfl) _
  have hblk3 := hB3.blk
  have hsub4 := hsub3.types.keep hMb (fun k hk e => by
    obtain ⟨cur', hc'⟩ := hk.2
    rw [e, hblk3] at hc'
    injection hc' with hc'
    injection hc' with _ e
    exact absurd e (by decide))
  have hz4 := hz3.keep hMb (by omega)
  have hx4 := hx3.keep hMb (by omega)
  have hM4 : Mod S w (w3.setCell ⟨b, 3, none⟩ (.int .i64 0)) := hM3.trans (box_mod hmine 3 _) (fun _ _ h => h)
  obtain ⟨_, _, _, _, _, _, _, f3⟩ := hB3.cells
  obtain ⟨_, _, _, c3, _⟩ := hB3.cells
  have H4 := Lib.hid (And.intro hB4 (And.intro hsub4 (And.intro hz4 (And.intro hx4 (And.intro hM4 hblt)))))
  clear hB3 hsub3 hz3 hx3 hM3 hlt2 hE1 hz hblt hmine hB4 hMb hblk3 hsub4 hz4 hx4 hM4 H3 hw3 hs3
  go_upto_region 5 with (fail)
  generalize w3.setCell ⟨b, 3, none⟩ (.int .i64 0) = w4 at H4 ⊢
  obtain ⟨hB4, hsub4, hz4, hx4, hM4, hblt⟩ := H4.out
  obtain ⟨q0, q1, q2, q3, q4⟩ := hx4.cells
  have g0 := hz4.free 0
  have g1 := hz4.free 1
  have g2 := hz4.free 2
  have g3 := hz4.free 3
  have g4 := hz4.free 4
  obtain ⟨a0, a1, a2, a3, a4⟩ := hz4.cells
  obtain ⟨r0, r1, r2, r3, r4⟩ := (hz4.fill e0.1.kind e0.1.n e0.1.f e0.1.s e0.2.1 e0.1.l.length e0.2.2).cells
  have hMz : Mod (fun k => k = w.heap.size) w4 (set5 w4 w.heap.size e0.1.kind e0.1.n e0.1.f e0.1.s e0.2.1 e0.1.l.length e0.2.2) := set5_mod (F := fun k => k = w.heap.size) (Mod.refl _ w4) (.inl rfl) _ _ _ _ _ _ _
  have hM7 : Mod S w (set5 w4 w.heap.size e0.1.kind e0.1.n e0.1.f e0.1.s e0.2.1 e0.1.l.length e0.2.2) := set5_mod hM4 (.inr (Nat.le_refl _)) _ _ _ _ _ _ _
  have hB7 := (hB4.keep hMz (fun k e hk => by omega)).mono (S' := S) (fun k hk => hk.1)
  have hsub7 := (hsub4.keep hMz (fun k hk e => by have := hk.1.1.2; omega)).mono (G' := fun k => S k ∧ some k ≠ v.ownBlock) (fun k hk => ⟨hk.1.1.1, hk.1.2⟩)
  have HX := Lib.hid (And.intro hB7 (And.intro hsub7 hM7))
  clear hB4 hsub4 hz4 hx4 hM4 hblt hMz hM7 hB7 hsub7 H4
  go_wp2_with fail
  exact bodyPost_ret (v := .tuple #[.agg #[.int .i64 e0.1.kind, .int .i64 e0.1.n, .float .f64 e0.1.f, .string e0.1.s, .slice e0.2.1 e0.1.l.length e0.2.2], .int .i64 0]) (by simp [results, Try.f13, go_sem, r0, r1, r2, r3, r4]) rfl ⟨rfl, _, HX.out.1, HX.out.2.1, HX.out.2.2⟩

theorem rewind_any (w : World) {place : Int} (h : BoxV w S b most words place v es) :
    Calls Try.prog 34 #[.pointer (some ⟨b, 0, none⟩)] w fun e w' => (∃ u, e = .returned u) ∧ BoxV w' S b most words 0 v es ∧ Mod S w w' := by
  obtain ⟨_, _, _, c3, _, _, _, f3⟩ := h.cells
  have HX := Lib.hid (And.intro (h.setPlace 0) (box_mod (w := w) h.mine 3 (.int .i64 0)))
  clear h
  go_enter Try.func34, Try.ntmps34
  go_wp2_with fail
  go_end0
  exact ⟨⟨_, rfl⟩, HX.out.1, HX.out.2⟩
end

end Go.Proofs.Yteiognkbkpidiaa
