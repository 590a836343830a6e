/- An inbox: Put where there is room. -/
import Derived.Test.YteiognkbkpidiaaInPut2
namespace Go.Proofs.Yteiognkbkpidiaa
open Go.RowKit
attribute [local irreducible] Ext
attribute [local go_sem] run_store_float

section
variable {S : Nat → Prop} {b : Nat} {most words place : Int} {v : Value} {es : List El} {x : Tm} {own : Bool} {G : Nat → Prop} {xv : Value}

set_option maxRecDepth 100000 in
set_option maxHeartbeats 40000000 in
theorem put_ok (w : World) (h : BoxV w S b most words place v es) (hx : TmV w own G xv x) (hG : ∀ k, G k → ¬ S k) (hc : cntT x ≤ 100000000) (hok : okT x) (he : checkT x = 0) (hl : es.length ≤ 100000000) (hw0 : 0 ≤ words) (hw1 : words ≤ 1000000000) (hov : ¬ most < words + (wordsT x + 2)) :
    Calls Try.prog 10 #[.pointer (some ⟨b, 0, none⟩), xv] w fun e w' => PutPost w S b most (words + (wordsT x + 2)) place es x e w' := by
  have HK := Lib.hid (fun w (hv : TmV w own G xv x) => pcheck_any w hv hc hok)
  have HC := Lib.hid (fun w (hv : TmV w own G xv x) => cost_any w hv hc hok)
  have HCP := Lib.hid (fun w (hv : TmV w own G xv x) => pcopy_any x own G xv w hv hc)
  have hwr := words_range x
  obtain ⟨m, hm⟩ : ∃ m, wordsT x + 2 = m := ⟨_, rfl⟩
  rw [he] at HK
  rw [hm] at HC hov ⊢
  have e1 : IntKind.i64.wrap (words + m) = words + m := IntWalk.i64_in _ (by omega)
  have b1 : decide (most < words + m) = false := decide_eq_false hov
  obtain ⟨k, n, f, s, L⟩ := x
  obtain ⟨so, cap, rfl, hrow⟩ := hx.parts
  have HE := Lib.hid ((Ext.refl w).alloc (.cells #[.int .i64 k, .int .i64 n, .float .f64 f, .string s, .slice so L.length cap] 27))
  have HR := Lib.hid (hrow.ext HE.out)
  have HB := Lib.hid (RBox.new w k n f s so L.length cap)
  have H := Lib.hid (h.bound.ext HE.out)
  have HG := Lib.hid (And.intro hG (And.intro h.mine (And.intro h.lt hl)))
  clear hx hrow hc hok h he hwr hw0 hw1 hov hm hG hl
  go_enter Try.func10, Try.ntmps10
  go_upto_region 4 with (go_at_call 24; (with_reducible refine (HK.out _ (TmV.of_parts HR.out)).mono ?_); rintro e w2 ⟨rfl, hE2⟩; have HE2 := Lib.hid hE2; clear hE2)
  obtain ⟨c0, c1, c2, c3, f0, f1, f2, f3⟩ := (H.out.ext HE2.out).cells
  obtain ⟨z0, z1, z2, z3, z4⟩ := (HB.out.ext HE2.out).cells
  have hcost := HC.out w2.drew ((TmV.of_parts HR.out).ext (HE2.out.drew))
  have HW1 := Lib.hid (show (w.alloc (.cells #[.int .i64 k, .int .i64 n, .float .f64 f, .string s, .slice so L.length cap] 27)).heap.size = w.heap.size + 1 by simp)
  generalize w.alloc (.cells #[.int .i64 k, .int .i64 n, .float .f64 f, .string s, .slice so L.length cap] 27) = w1 at HE HR HB H HE2 HW1
  go_cut [22] from 11 to 21 (fun u wx => u = .bool false ∧ Hid (Ext w1 wx))
  case first =>
    go_region_law (first
      | (go_simp; go_at_call 25; (with_reducible refine hcost.mono ?_); rintro e w3 ⟨rfl, hE3⟩; have hE3 := HE2.out.drew.trans hE3; obtain ⟨d0, d1, d2, d3, _⟩ := (H.out.ext hE3).cells; have HE3 := Lib.hid hE3; clear hE3)
      | fail)
    all_goals go_wp2
    all_goals go_meet
    all_goals exact ⟨rfl, HE3⟩
  case rest =>
    obtain ⟨rfl, HE3⟩ := hcut
    clear c0 c1 c2 c3 f0 f1 f2 f3 z0 z1 z2 z3 z4 hcost HE2 w2
    obtain ⟨c0, c1, c2, c3, f0, f1, f2, f3⟩ := (H.out.ext HE3.out).cells
    obtain ⟨z0, z1, z2, z3, z4⟩ := (HB.out.ext HE3.out).cells
    have hcost := HC.out wc.drew ((TmV.of_parts HR.out).ext (HE3.out.drew))
    go_upto_region 6 with (fail)
    go_cut [23] from 24 to 31 (fun _ wx => Hid (∃ w5, Ext w1 w5 ∧ wx = w5.setCell ⟨b, 1, none⟩ (.int .i64 (words + m))))
    case first =>
      go_region_law (first
        | (go_simp; go_at_call 25; (with_reducible refine hcost.mono ?_); rintro e w3 ⟨rfl, hE4⟩; have hE4 := HE3.out.drew.trans hE4; obtain ⟨d0, d1, d2, d3, g0, g1, g2, g3⟩ := (H.out.ext hE4).cells; have HE4 := Lib.hid hE4; clear hE4)
        | fail)
      all_goals go_wp2
      all_goals go_meet
      all_goals exact Lib.hid ⟨w3, HE4.out, rfl⟩
    case rest =>
      obtain ⟨w5, hE5, rfl⟩ := hcut.out
      clear hcut
      obtain ⟨hGG, hSb, hbl, hl⟩ := HG.out
      have hB6 := (H.out.ext hE5).setWords (words + m)
      have hMb : Mod (fun k => k = b) w5 (w5.setCell ⟨b, 1, none⟩ (.int .i64 (words + m))) := (Mod.refl (fun k => k = b) w5).setCell (p := ⟨b, 1, none⟩) (.inl rfl) _
      have hx6 := (HB.out.ext hE5).keep hMb (by omega)
      have ht5 : TmV w5 own G (.agg #[.int .i64 k, .int .i64 n, .float .f64 f, .string s, .slice so L.length cap]) (.mk k n f s L) := (TmV.of_parts HR.out).ext hE5
      have ht6 := ht5.keep hMb (fun q hq e => hGG q hq (e ▸ hSb))
      have hM6 : Mod S w (w5.setCell ⟨b, 1, none⟩ (.int .i64 (words + m))) := (mod_of_ext (HE.out.trans hE5)).trans (box_mod hSb 1 _) (fun _ _ h => h)
      have hs6 : w1.heap.size ≤ (w5.setCell ⟨b, 1, none⟩ (.int .i64 (words + m))).heap.size := by have := hE5.size; simp [World.setCell]; exact this
      clear c0 c1 c2 c3 f0 f1 f2 f3 z0 z1 z2 z3 z4 hcost hE5 hMb HE3 HC HK H HB HR HE ht5
      generalize w5.setCell ⟨b, 1, none⟩ (.int .i64 (words + m)) = w6 at hB6 hx6 ht6 hM6 hs6 ⊢
      clear w5 e1 b1
      obtain ⟨so6, sc6, rfl⟩ := hB6.row.slice
      obtain ⟨c0, c1, c2, c3, f0, f1, f2, f3⟩ := hB6.cells
      obtain ⟨z0, z1, z2, z3, z4⟩ := hx6.cells
      obtain ⟨i0, hi, hz0, hz1, hz2⟩ := info_parts info5
      have hEz := (Ext.refl w6).alloc (.cells #[.int .i64 0, .int .i64 0, .float .f64 0, .string ⟨#[]⟩, .slice none 0 0] 27)
      have hA := HCP.out w6.drew (ht6.ext (Ext.refl w6).drew)
      have hB := HCP.out (w6.alloc (.cells #[.int .i64 0, .int .i64 0, .float .f64 0, .string ⟨#[]⟩, .slice none 0 0] 27)).drew (ht6.ext hEz.drew)
      have cz2 := (hB6.ext hEz).cells.2.2.1
      obtain ⟨zz0, zz1, zz2, zz3, zz4⟩ := (hx6.ext hEz).cells
      have hbl' := Lib.hid hbl
      have s1 : (0 : Int) ≤ (es.length : Int) := by omega
      have s2 : (es.length : Int) < (es.length : Int) + 1 := by omega
      have hbne : b ≠ w.heap.size := by omega
      have hsz6 : w.heap.size + 1 ≤ w6.heap.size := by have := HW1.out; omega
      have hE6 := Ext.refl w6
      have HES := Lib.hid (show es.length + 1 ≤ 1000000000 by omega)
      have H6 := Lib.hid (And.intro hB6 (And.intro hx6 (And.intro ht6 (And.intro hM6 hsz6))))
      have HGG := Lib.hid (show ∀ k, G k → ¬ some k = (Value.slice so6 es.length sc6).ownBlock from fun k hk e => hGG k hk (hB6.row.mine k e.symm).1)
      have HX6 := Lib.hid (show ∀ k, some k = (Value.slice so6 es.length sc6).ownBlock → k < w.heap.size from fun k e => (hB6.row.mine k e.symm).2)
      have HGB := Lib.hid (show ∀ k, G k → ¬ k = b from fun k hk e => hGG k hk (e ▸ hSb))
      clear hB6 hx6 ht6 hM6 hs6 hEz hGG hSb hbl hl hsz6 HW1 c0 c1 c3 f0 f1 f2 f3 HG
      go_upto_region 7 with (fail)
      go_region_law (first
          | (go_simp; go_at_call 26; (with_reducible refine hA.mono ?_); rintro e w7 ⟨so7, cap7, rfl, hrow7, hE7⟩; unfold elV; have hE7 := (Ext.refl w6).drew.trans hE7; have d2 := (H6.out.1.ext hE7).cells.2.2.1; have d2z := ((H6.out.1.ext hE7).ext ((Ext.refl w7).alloc (.cells #[.int .i64 0, .int .i64 0, .float .f64 0, .string ⟨#[]⟩, .slice none 0 0] 27))).cells.2.2.1; have hz7 := heap_alloc_new w7 (.cells #[.int .i64 0, .int .i64 0, .float .f64 0, .string ⟨#[]⟩, .slice none 0 0] 27); have HR7 := Lib.hid hrow7; have hEE7 := Ext.refl w7; have hsz7 := Lib.hid (show w.heap.size + 1 ≤ w6.drew.heap.size from H6.out.2.2.2.2); clear hrow7 hA hB c2 cz2 z0 z1 z2 z3 z4 zz0 zz1 zz2 zz3 zz4)
          | (go_simp; go_at_call 26; (with_reducible refine hB.mono ?_); rintro e w7 ⟨so7, cap7, rfl, hrow7, hE7⟩; unfold elV; have hz7 := hE7.keep (heap_alloc_new w6 (.cells #[.int .i64 0, .int .i64 0, .float .f64 0, .string ⟨#[]⟩, .slice none 0 0] 27)); have hE7 := ((Ext.refl w6).alloc (.cells #[.int .i64 0, .int .i64 0, .float .f64 0, .string ⟨#[]⟩, .slice none 0 0] 27)).drew.trans hE7; have d2 := (H6.out.1.ext hE7).cells.2.2.1; have HR7 := Lib.hid hrow7; have hEE7 := Ext.refl w7; have hsz7 := Lib.hid (show w.heap.size + 1 ≤ (w6.alloc (.cells #[.int .i64 0, .int .i64 0, .float .f64 0, .string ⟨#[]⟩, .slice none 0 0] 27)).drew.heap.size from by have := H6.out.2.2.2.2; simp; omega); clear hrow7 hA hB c2 cz2 z0 z1 z2 z3 z4 zz0 zz1 zz2 zz3 zz4)
          | (go_simp; go_at_call 26; (with_reducible refine hC1.mono ?_); rintro e w9 ⟨so7, cap7, rfl, hrow9, hE9⟩; unfold elV; have HRX := Lib.hid (HGr.out.late hrow9); obtain ⟨p0, p1, p2, p3, p4, pf, pb, pbf⟩ := (HGr.out.ext hE9).cells; have HG9 := Lib.hid (HGr.out.ext hE9); clear hrow9 hE9 HGr hC1 q0 q1 q2 q3 q4 qf qb qbf)
          | (go_simp; go_at_call 26; (with_reducible refine hC2.mono ?_); rintro e w9 ⟨so7, cap7, rfl, hrow9, hE9⟩; unfold elV; have HRX := Lib.hid (HGr.out.setl.late hrow9); obtain ⟨p0, p1, p2, p3, p4, pf, pb, pbf⟩ := (HGr.out.setl.ext hE9).cells; have HG9 := Lib.hid (HGr.out.setl.ext hE9); clear hrow9 hE9 HGr hC2)
          | (refine step_app (by rfl) _ _ 22 (by rfl) 0 27 i0 (.agg #[.int .i64 0, .int .i64 0, .float .f64 0, .string ⟨#[]⟩, .slice none 0 0]) 5 64 Try.underlying22 hi hz0 hz1 hz2 rfl (by decide) (.slice so6 es.length sc6) es.length (fl5 es) (by rfl) (H6.out.1.row.ext (by repeat (first | assumption | apply Ext.drew | apply Ext.alloc))).own _ 1 1 zeroEl (by rfl) rfl (src_zero (by first | exact heap_alloc_new w6 _ | exact hz7)) ones_zero HES.out (by decide) (Nat.zero_le _) ?_
             intro so8 sc8 w8 hown8 hM8 hb8
             obtain ⟨g, rfl, hGr, hg⟩ := grown H6.out.1 H6.out.2.2.2.1 H6.out.2.2.2.2 (by repeat (first | assumption | apply Ext.drew | apply Ext.alloc)) hown8 hM8 hb8
             obtain ⟨q0, q1, q2, q3, q4, qf, qb, qbf⟩ := hGr.cells
             have hgb := hGr.gb
             have hbg := hgb.symm
             first
               | (have HRX := Lib.hid (late_row HR7.out hsz7.out (by repeat (first | assumption | apply Ext.drew | apply Ext.alloc)) hM8 HX6.out hg)
                  have HGr := Lib.hid hGr
                  clear hown8 hM8 hb8 hg hGr
                  try clear d2 hz7
                  try clear d2z)
               | (have hx8 := (H6.out.2.1.ext ((Ext.refl w6).alloc (.cells #[.int .i64 0, .int .i64 0, .float .f64 0, .string ⟨#[]⟩, .slice none 0 0] 27)).drew).keep hM8 (fun e => absurd (HX6.out _ e) (Nat.lt_irrefl _))
                  have ht8 := (H6.out.2.2.1.ext ((Ext.refl w6).alloc (.cells #[.int .i64 0, .int .i64 0, .float .f64 0, .string ⟨#[]⟩, .slice none 0 0] 27)).drew).keep hM8 HGG.out
                  have ht8s := ht8.keep ((Mod.refl (fun k => k = b) w8).setCell (p := ⟨b, 2, none⟩) (.inl rfl) (.slice (some ⟨g, 0, none⟩) (es.length + 1) sc8)) HGB.out
                  obtain ⟨y0, y1, y2, y3, y4⟩ := hx8.cells
                  obtain ⟨ys0, ys1, ys2, ys3, ys4⟩ := (rbox_set hx8 (p := ⟨b, 2, none⟩) hbne (.slice (some ⟨g, 0, none⟩) (es.length + 1) sc8)).cells
                  have hC1 := HCP.out w8 ht8
                  have hC2 := HCP.out (w8.setCell ⟨b, 2, none⟩ (.slice (some ⟨g, 0, none⟩) (es.length + 1) sc8)) ht8s
                  obtain ⟨gs0, gs1, gs2, gs3, gs4, gsf, gsb, gsbf⟩ := hGr.setl.cells
                  have HGr := Lib.hid hGr
                  clear hown8 hM8 hb8 hg hGr hx8 ht8 ht8s hA hB c2 cz2 z0 z1 z2 z3 z4 zz0 zz1 zz2 zz3 zz4))
          | fail)
      all_goals go_wp2
      all_goals go_ret
      all_goals show PutPost _ _ _ _ _ _ _ _ (.returned (.int .i64 0)) _
      all_goals first
        | with_reducible exact HG9.out.fin3 (.mk k n f s L) so7 cap7 HRX.out
        | with_reducible exact HG9.out.fin1 (.mk k n f s L) so7 cap7 HRX.out
        | with_reducible exact HG9.out.fin2 (.mk k n f s L) so7 cap7 HRX.out hbl'.out
        | with_reducible exact HGr.out.fin1 (.mk k n f s L) so7 cap7 HRX.out
        | with_reducible exact HGr.out.fin2 (.mk k n f s L) so7 cap7 HRX.out hbl'.out
        | (trace_state; fail)
end

end Go.Proofs.Yteiognkbkpidiaa
