/- The chapter's examples. -/
import Derived.Test.YtdimmomjildpcaaExSame
import Derived.Test.YtdimmomjildpcaaExAct2
namespace Go.Proofs.Ytdimmomjildpcaa
open Go.RowKit
attribute [local irreducible] Ext
attribute [local go_sem] run_store_float

theorem echk_kill (ln : Bool) : echk 3 1 5 0 0 ln ⟨#[]⟩ 3 0 0 ⟨#[107, 105, 108, 108]⟩ ([] : List Tm).length (checkT (.mk 3 0 0 ⟨#[107, 105, 108, 108]⟩ [])) = 0 := by
  rw [check_atom _ (by decide)]
  cases ln <;> simp [echk, echkB, hasT, hasI, hasR, hasL, hasN, numB]

theorem know_kill (w : World) : Calls Try.prog 12 #[.agg #[.int .i64 3, .int .i64 1, .int .i64 5, .int .i64 0, .int .i64 0, .bool false, .string ⟨#[]⟩, .int .i64 3, .int .i64 0, .float .f64 0, .string ⟨#[107, 105, 108, 108]⟩, .slice none 0 0], .bool true] w fun e w' =>
    e = .returned (.tuple #[.agg #[.int .i64 2, .int .i64 3, .int .i64 0, .float .f64 0, .string ⟨#[107, 105, 108, 108, 101, 100]⟩, .slice none 0 0], .int .i64 0]) ∧ Ext w w' :=
  act_kill (L := []) (own := false) (G := fun _ => True) (so := none) 3 1 0 0 true ⟨#[]⟩ 0 w (row_nil _ _ _ _) (by decide) (ok_leaf _ _ _) (echk_kill false)

theorem know_ends (w : World) : Calls Try.prog 12 #[.agg #[.int .i64 3, .int .i64 1, .int .i64 5, .int .i64 0, .int .i64 0, .bool true, .string ⟨#[]⟩, .int .i64 3, .int .i64 0, .float .f64 0, .string ⟨#[107, 105, 108, 108]⟩, .slice none 0 0], .bool false] w fun e w' =>
    (∃ so2 cap2, e = .returned (.tuple #[.agg #[.int .i64 2, .int .i64 3, .int .i64 0, .float .f64 0, .string ⟨#[107, 105, 108, 108]⟩, .slice so2 0 cap2], .int .i64 0])) ∧ Ext w w' :=
  (act_ends (L := []) (own := false) (G := fun _ => True) (so := none) (xn := false) (xk := true) 3 1 0 0 true ⟨#[]⟩ 0 w (row_nil _ _ _ _) (by decide) (ok_leaf _ _ _) (echk_kill true) (by decide +kernel) (by decide +kernel) (by decide)).mono
    (fun e w' h => by obtain ⟨so2, cap2, he, _, hE⟩ := h; exact ⟨⟨so2, cap2, he⟩, hE⟩)

theorem know_dead (w : World) : Calls Try.prog 9 #[.agg #[.int .i64 1, .int .i64 7, .int .i64 2, .int .i64 0, .int .i64 0, .bool false, .string ⟨#[]⟩, .int .i64 0, .int .i64 0, .float .f64 0, .string ⟨#[]⟩, .slice none 0 0]] w fun e w' =>
    e = .returned (.tuple #[.agg #[.int .i64 7, .int .i64 1, .int .i64 5, .int .i64 0, .int .i64 0, .bool true, .string ⟨#[]⟩, .int .i64 3, .int .i64 0, .float .f64 0, .string ⟨#[110, 111, 112, 114, 111, 99]⟩, .slice none 0 0], .bool true]) ∧ Ext w w' :=
  pdead2 1 7 0 0 false ⟨#[]⟩ 0 0 0 ⟨#[]⟩ none 0 0 (by decide) w

set_option maxRecDepth 100000 in
set_option maxHeartbeats 4000000 in
theorem known_any (w : World) : Calls Try.prog 6 #[] w fun e w' => e = .returned (.bool true) ∧ Ext w w' := by
  have HE := Lib.hid (Ext.refl w)
  have H1 := Lib.hid know_kill
  have H2 := Lib.hid know_ends
  have H3 := Lib.hid know_dead
  go_enter Try.func6, Try.ntmps6
  go_upto_region 2 with (first
    | (go_at_call 15; (with_reducible refine (a_any _ _).mono ?_); rintro e wa ⟨rfl, hEa⟩; have HE := Lib.hid (HE.out.trans hEa); clear hEa)
    | (go_at_call 12; (with_reducible refine (H1.out _).mono ?_); rintro e wb ⟨rfl, hEb⟩; have HE := Lib.hid (HE.out.trans hEb); clear hEb)
    | fail)
  have hO1 := OBox.new wb 2 3 0 0 ⟨#[107, 105, 108, 108, 101, 100]⟩ none 0 0
  obtain ⟨w1, hw1⟩ : ∃ w1, wb.alloc (.cells #[.int .i64 2, .int .i64 3, .int .i64 0, .float .f64 0, .string ⟨#[107, 105, 108, 108, 101, 100]⟩, .slice none 0 0] 37) = w1 := ⟨_, rfl⟩
  have HE := Lib.hid (HE.out.alloc (.cells #[.int .i64 2, .int .i64 3, .int .i64 0, .float .f64 0, .string ⟨#[107, 105, 108, 108, 101, 100]⟩, .slice none 0 0] 37))
  rw [hw1] at hO1 HE ⊢
  generalize wb.heap.size = b1 at hO1 ⊢
  have HO1 := Lib.hid hO1
  have HX1 := Lib.hid (Ext.refl w1)
  clear hw1 hO1
  go_upto_region 3 with (first
    | (go_at_call 15; (with_reducible refine (a_any _ _).mono ?_); rintro e wa ⟨rfl, hEa⟩; have HX1 := Lib.hid (HX1.out.trans hEa); clear hEa)
    | (go_at_call 12; (with_reducible refine (H2.out _).mono ?_); rintro e wc ⟨⟨so2, cap2, rfl⟩, hEb⟩; have HX1 := Lib.hid (HX1.out.trans hEb); clear hEb)
    | fail)
  have hO2 := OBox.new wc 2 3 0 0 ⟨#[107, 105, 108, 108]⟩ so2 0 cap2
  have HX1 := Lib.hid (HX1.out.alloc (.cells #[.int .i64 2, .int .i64 3, .int .i64 0, .float .f64 0, .string ⟨#[107, 105, 108, 108]⟩, .slice so2 0 cap2] 37))
  obtain ⟨w2, hw2⟩ : ∃ w1, wc.alloc (.cells #[.int .i64 2, .int .i64 3, .int .i64 0, .float .f64 0, .string ⟨#[107, 105, 108, 108]⟩, .slice so2 0 cap2] 37) = w1 := ⟨_, rfl⟩
  rw [hw2] at hO2 HX1 ⊢
  generalize wc.heap.size = b2 at hO2 ⊢
  have HO2 := Lib.hid hO2
  have HX2 := Lib.hid (Ext.refl w2)
  clear hw2 hO2
  go_upto_region 4 with (first
    | (go_at_call 9; (with_reducible refine (H3.out _).mono ?_); rintro e wd ⟨rfl, hEb⟩; have HX2 := Lib.hid (HX2.out.trans hEb); clear hEb)
    | fail)
  have hS := SBox.new wd 7 1 5 0 0 true ⟨#[]⟩ 3 0 0 ⟨#[110, 111, 112, 114, 111, 99]⟩ none 0 0
  have HX2 := Lib.hid (HX2.out.alloc (.cells #[.int .i64 7, .int .i64 1, .int .i64 5, .int .i64 0, .int .i64 0, .bool true, .string ⟨#[]⟩, .int .i64 3, .int .i64 0, .float .f64 0, .string ⟨#[110, 111, 112, 114, 111, 99]⟩, .slice none 0 0] 27))
  obtain ⟨w3, hw3⟩ : ∃ w1, wd.alloc (.cells #[.int .i64 7, .int .i64 1, .int .i64 5, .int .i64 0, .int .i64 0, .bool true, .string ⟨#[]⟩, .int .i64 3, .int .i64 0, .float .f64 0, .string ⟨#[110, 111, 112, 114, 111, 99]⟩, .slice none 0 0] 27) = w1 := ⟨_, rfl⟩
  rw [hw3] at hS HX2 ⊢
  generalize wd.heap.size = b3 at hS ⊢
  obtain ⟨s0, s1, s2, s3, s4, s5, s6, s7, s8, s9, s10, s11⟩ := hS.cells
  obtain ⟨p0, p1, p2, p3, p4, p5⟩ := (HO1.out.ext (HX1.out.trans HX2.out)).cells
  obtain ⟨q0, q1, q2, q3, q4, q5⟩ := (HO2.out.ext HX2.out).cells
  clear hw3 hS
  go_wp2_with fail
  go_ret
  exact ⟨rfl, HE.out.trans (HX1.out.trans HX2.out)⟩

end Go.Proofs.Ytdimmomjildpcaa
