/- An inbox: the chapter's examples. -/
import Derived.Test.YteiognkbkpidiaaInDuo
namespace Go.Proofs.Yteiognkbkpidiaa
open Go.RowKit
attribute [local irreducible] Ext
attribute [local go_sem] run_store_float

set_option maxRecDepth 100000 in
theorem i_any (n : Int) (w : World) :
    Calls Try.prog 18 #[.int .i64 n] w fun e w' => e = .returned (.agg #[.int .i64 1, .int .i64 n, .float .f64 0, .string ⟨#[]⟩, .slice none 0 0]) ∧ Ext w w' := by
  have hE := Lib.hid (ext_set5 ((Ext.refl w).alloc (.cells #[.int .i64 0, .int .i64 0, .float .f64 0, .string ⟨#[]⟩, .slice none 0 0] 27)) (Nat.le_refl _) 1 n 0 ⟨#[]⟩ none 0 0)
  have hz := RBox.new w 0 0 0 ⟨#[]⟩ none 0 0
  have hy := hz.fill 1 n 0 ⟨#[]⟩ none 0 0
  obtain ⟨w1, hw1⟩ : ∃ w1, w.alloc (.cells #[.int .i64 0, .int .i64 0, .float .f64 0, .string ⟨#[]⟩, .slice none 0 0] 27) = w1 := ⟨_, rfl⟩
  rw [hw1] at hE hz hy
  obtain ⟨z0, z1, z2, z3, z4⟩ := hz.cells
  have g0 := hz.free 0
  have g1 := hz.free 1
  have g2 := hz.free 2
  have g3 := hz.free 3
  have g4 := hz.free 4
  obtain ⟨y0, y1, y2, y3, y4⟩ := hy.cells
  clear hz hy
  go_enter Try.func18, Try.ntmps18
  go_wp2_with fail
  exact bodyPost_ret (v := .agg #[.int .i64 1, .int .i64 n, .float .f64 0, .string ⟨#[]⟩, .slice none 0 0]) (by simp [results, Try.f18, go_sem, y0, y1, y2, y3, y4]) rfl ⟨rfl, hE.out⟩

/-- A state of the walk. -/
def St (w0 : World) (o : Nat → Prop) (b : Nat) (mb wb pb : Int) (lb : List Tm) (c : Nat) (mc wc pc : Int) (lc : List Tm) (w : World) : Prop := Duo o w b mb wb pb lb c mc wc pc lc ∧ (∀ k, k < w0.heap.size → o k) ∧ Mod (fun k => ¬ k < w0.heap.size) w0 w

section
variable {w0 w w' : World} {o : Nat → Prop} {b : Nat} {mb wb pb : Int} {lb : List Tm} {c : Nat} {mc wc pc : Int} {lc : List Tm}

theorem St.duo (h : St w0 o b mb wb pb lb c mc wc pc lc w) : Duo o w b mb wb pb lb c mc wc pc lc := h.1

theorem St.ext (h : St w0 o b mb wb pb lb c mc wc pc lc w) (hE : Ext w w') : St w0 o b mb wb pb lb c mc wc pc lc w' := ⟨h.1.ext hE, h.2.1, h.2.2.trans (mod_of_ext hE) (fun _ _ h => h)⟩

theorem St.swap (h : St w0 o b mb wb pb lb c mc wc pc lc w) : St w0 o c mc wc pc lc b mb wb pb lb w := ⟨h.1.swap, h.2⟩

theorem St.more (h : St w0 o b mb wb pb lb c mc wc pc lc w) (hE : Ext w w') (x : Nat) (hx : w.heap.size ≤ x) (hx' : x < w'.heap.size) : St w0 (fun k => o k ∨ k = x) b mb wb pb lb c mc wc pc lc w' :=
  ⟨h.1.more hE x hx hx', fun k hk => .inl (h.2.1 k hk), h.2.2.trans (mod_of_ext hE) (fun _ _ h => h)⟩

theorem St.post {mb' wb' pb' : Int} {lb' : List Tm} (h : St w0 o b mb wb pb lb c mc wc pc lc w) (hp : DuoPost o w b mb' wb' pb' lb' c mc wc pc lc w') : St w0 o b mb' wb' pb' lb' c mc wc pc lc w' :=
  ⟨hp.1, h.2.1, h.2.2.trans hp.2 (fun k _ e f => e (h.2.1 k f))⟩

theorem St.done (h : St w0 o b mb wb pb lb c mc wc pc lc w) : Ext w0 w := by
  have := h.2.2.mono (G := fun _ => False) (fun k hk e => e hk)
  unfold Ext
  exact this

theorem st_new (w : World) (mb mc : Int) : St w (fun k => k < w.heap.size) w.heap.size mb 0 0 [] (w.heap.size + 1) mc 0 0 [] ((w.alloc (.cells #[.int .i64 mb, .int .i64 0, .slice none 0 0, .int .i64 0] 59)).alloc (.cells #[.int .i64 mc, .int .i64 0, .slice none 0 0, .int .i64 0] 59)) := by
  have h1 := heap_alloc_new w (.cells #[.int .i64 mb, .int .i64 0, .slice none 0 0, .int .i64 0] 59)
  have hE := (Ext.refl (w.alloc (.cells #[.int .i64 mb, .int .i64 0, .slice none 0 0, .int .i64 0] 59))).alloc (.cells #[.int .i64 mc, .int .i64 0, .slice none 0 0, .int .i64 0] 59)
  have h2 := heap_alloc_new (w.alloc (.cells #[.int .i64 mb, .int .i64 0, .slice none 0 0, .int .i64 0] 59)) (.cells #[.int .i64 mc, .int .i64 0, .slice none 0 0, .int .i64 0] 59)
  rw [show (w.alloc (.cells #[.int .i64 mb, .int .i64 0, .slice none 0 0, .int .i64 0] 59)).heap.size = w.heap.size + 1 by simp] at h2
  refine ⟨duo_new (by omega) (fun k hk => ⟨by simp; omega, by omega, by omega⟩) (hE.keep h1) h2, fun k hk => hk, ?_⟩
  exact ((Mod.refl _ w).alloc _).alloc _
end

/-- The first k numbers. -/
def tIs (j : Nat) : List Tm := (List.range j).map (fun k : Nat => tI ((k : Int) + 1))

theorem tIs_succ (j : Nat) : tIs j ++ [tI ((j : Int) + 1)] = tIs (j + 1) := by
  unfold tIs
  rw [List.range_succ, List.map_append]
  rfl

theorem tIs_len (j : Nat) : (tIs j).length = j := by simp [tIs]

theorem tIs_3 : tIs 3 = [tI 1, tI 2, tI 3] := rfl

set_option maxRecDepth 100000 in
set_option maxHeartbeats 4000000 in
theorem known_any (w : World) : Calls Try.prog 6 #[] w fun e w' => e = .returned (.bool true) ∧ Ext w w' := by
  have H := Lib.hid (st_new w 4 100)
  obtain ⟨wn, hwn⟩ : ∃ wn, (w.alloc (.cells #[.int .i64 4, .int .i64 0, .slice none 0 0, .int .i64 0] 59)).alloc (.cells #[.int .i64 100, .int .i64 0, .slice none 0 0, .int .i64 0] 59) = wn := ⟨_, rfl⟩
  rw [hwn] at H
  go_enter Try.func6, Try.ntmps6
  go_upto_region 5 with (first
    | (go_at_call 8; (with_reducible refine (new_ok 4 _ (by decide) (by decide)).mono ?_); rintro e w' ⟨rfl, rfl⟩)
    | (go_at_call 8; (with_reducible refine (new_ok 100 _ (by decide) (by decide)).mono ?_); rintro e w' ⟨rfl, rfl⟩)
    | fail)
  clear hwn
  go_upto_region 7 with (first
    | (go_at_call 18; (with_reducible refine (i_any _ _).mono ?_); rintro e w' ⟨rfl, hE⟩; have H := Lib.hid (H.out.ext hE); clear hE)
    | (go_at_call 10; (with_reducible refine (duo_put H.out.duo 1 (by decide) (by decide) (by decide) (by decide) (by decide) (by decide)).mono ?_); rintro e w' ⟨rfl, hP⟩; have H := Lib.hid (H.out.post hP); clear hP)
    | fail)
  have H := Lib.hid (H.out.swap)
  go_wp2_with fail
  go_loopg [5] 3 (fun g i wr => ∃ j : Nat, j + g = 3 ∧ i = .int .i64 ((j : Int) + 1) ∧ Hid (St w (fun k => k < w.heap.size) (w.heap.size + 1) 100 (2 * (j : Int)) 0 (tIs j) w.heap.size 4 4 0 [tI 1, tI 1] wr))
  case atStart => exact ⟨0, by omega, rfl, H⟩
  case round =>
    obtain ⟨j, hj, rfl, H⟩ := hrel
    by_cases hlt : j < 3
    · have c1 : decide ((j : Int) + 1 < 4) = true := decide_eq_true (by omega)
      have s1 : (0 : Int) ≤ 2 * (j : Int) := by omega
      have s2 : 2 * (j : Int) ≤ 1000000 := by omega
      have s3 : 2 * (j : Int) + 2 ≤ 100 := by omega
      have s4 : (0 : Int) ≤ (j : Int) + 1 := by omega
      have s5 : (j : Int) + 1 ≤ 1000 := by omega
      have s6 : (tIs j).length ≤ 1000 := by rw [tIs_len]; omega
      have HS := Lib.hid (And.intro s1 (And.intro s2 (And.intro s3 (And.intro s4 (And.intro s5 s6)))))
      have e3 : IntKind.i64.wrap ((j : Int) + 1 + 1) = (j : Int) + 1 + 1 := IntWalk.i64_in _ (by omega)
      clear s1 s2 s3 s4 s5 s6
      go_wp2_with (first
        | (go_at_call 18; (with_reducible refine (i_any _ _).mono ?_); rintro e w' ⟨rfl, hE⟩; have H := Lib.hid (H.out.ext hE); clear hE)
        | (go_at_call 10; (with_reducible refine (duo_put H.out.duo _ HS.out.2.2.2.1 HS.out.2.2.2.2.1 HS.out.2.2.2.2.2 HS.out.1 HS.out.2.1 HS.out.2.2.1).mono ?_); rintro e w' ⟨rfl, hP⟩; have H := Lib.hid (H.out.post hP); clear hP)
        | fail)
      go_roundg (3 - j - 1)
      case measure => omega
      case rel => exact ⟨j + 1, by omega, rfl, by rw [tIs_succ] at H; rw [show 2 * ((j + 1 : Nat) : Int) = 2 * (j : Int) + 2 by omega]; exact H⟩
    · obtain rfl : j = 3 := by omega
      have c1 : decide (((3 : Nat) : Int) + 1 < 4) = false := rfl
      rw [tIs_3] at H
      have H := Lib.hid (show St w (fun k => k < w.heap.size) (w.heap.size + 1) 100 6 0 [tI 1, tI 2, tI 3] w.heap.size 4 4 0 [tI 1, tI 1] wr from H.out)
      go_upto_region 13 with (first
        | (go_at_call 11; (with_reducible refine (duo_next0 H.out.duo (by decide)).mono ?_); rintro e w' ⟨so1, cap1, rfl, hP⟩; have H := Lib.hid (H.out.post hP); clear hP)
        | (go_at_call 11; (with_reducible refine (duo_next1 H.out.duo (by decide)).mono ?_); rintro e w' ⟨so1, cap1, rfl, hP⟩; have H := Lib.hid (H.out.post hP); clear hP)
        | fail)
      go_upto_region 14 with (first
        | (go_at_call 13; (with_reducible refine (duo_take1 H.out.duo (by decide) (by decide) (by decide) (by decide) (by decide)).mono ?_); rintro e w' ⟨so2, cap2, rfl, hP⟩
           have H := Lib.hid (H.out.post hP)
           clear hP
           have hX := RBox.new w' 1 2 0 ⟨#[]⟩ so2 0 cap2
           have hEx := (Ext.refl w').alloc (.cells #[.int .i64 1, .int .i64 2, .float .f64 0, .string ⟨#[]⟩, .slice so2 0 cap2] 27)
           obtain ⟨wx, hwx⟩ : ∃ wx, w'.alloc (.cells #[.int .i64 1, .int .i64 2, .float .f64 0, .string ⟨#[]⟩, .slice so2 0 cap2] 27) = wx := ⟨_, rfl⟩
           rw [hwx] at hEx hX
           have H := Lib.hid (H.out.more hEx w'.heap.size (Nat.le_refl _) hX.lt)
           have HX := Lib.hid hX
           clear hX hEx)
        | fail)
      clear hwx
      go_upto_region 15 with (first
        | (go_at_call 11; (with_reducible refine (duo_next0 H.out.duo (by decide)).mono ?_); rintro e w' ⟨so3, cap3, rfl, hP⟩
           have HX := Lib.hid (HX.out.keep hP.2 (fun e => e (.inr rfl)))
           have H := Lib.hid (H.out.post hP)
           clear hP
           have hY := RBox.new w' 1 1 0 ⟨#[]⟩ so3 0 cap3
           have hEx := (Ext.refl w').alloc (.cells #[.int .i64 1, .int .i64 1, .float .f64 0, .string ⟨#[]⟩, .slice so3 0 cap3] 27)
           obtain ⟨wy, hwx⟩ : ∃ wy, w'.alloc (.cells #[.int .i64 1, .int .i64 1, .float .f64 0, .string ⟨#[]⟩, .slice so3 0 cap3] 27) = wy := ⟨_, rfl⟩
           rw [hwx] at hEx hY
           have H := Lib.hid (H.out.more hEx w'.heap.size (Nat.le_refl _) hY.lt)
           have HX := Lib.hid (HX.out.ext hEx)
           have HY := Lib.hid hY
           clear hY hEx)
        | fail)
      clear hwx
      have H := Lib.hid H.out.swap
      go_wp2_with (first
        | (go_at_call 18; (with_reducible refine (i_any _ _).mono ?_); rintro e w' ⟨rfl, hE⟩; have H := Lib.hid (H.out.ext hE); have HX := Lib.hid (HX.out.ext hE); have HY := Lib.hid (HY.out.ext hE); clear hE)
        | (go_at_call 10; (with_reducible refine (duo_full H.out.duo 1 (by decide) (by decide) (by decide) (by decide) (by decide)).mono ?_); rintro e w' ⟨rfl, hE⟩; have H := Lib.hid (H.out.ext hE); have x1 := (HX.out.ext hE).cells.2.1; have y1 := (HY.out.ext hE).cells.2.1; clear hE)
        | (go_at_call 21; (with_reducible refine (duo_words H.out.duo).mono ?_); rintro e w' ⟨rfl, rfl⟩)
        | (go_at_call 14; (with_reducible refine (duo_len H.out.swap.duo).mono ?_); rintro e w' ⟨rfl, rfl⟩)
        | fail)
      all_goals go_ret
      all_goals exact ⟨rfl, H.out.done⟩

end Go.Proofs.Yteiognkbkpidiaa
