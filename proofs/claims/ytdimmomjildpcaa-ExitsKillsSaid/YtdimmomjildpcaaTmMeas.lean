/- The document's measure, all, Check, Right, Words. -/
import Derived.Test.YtdimmomjildpcaaTmPlainFn
namespace Go.Proofs.Ytdimmomjildpcaa
open Go.RowKit
attribute [local irreducible] Ext

theorem meas_le (t : Tm) : ∀ (d most : Int), 0 ≤ measT t d most → measT t d most ≤ most := by
  induction t using Tm.ind with
  | h t ih =>
    obtain ⟨k, n, f, s, l⟩ := t
    intro d most
    have hl : ∀ (xs : List Tm), (∀ x ∈ xs, x ∈ l) → ∀ (d most n : Int), n ≤ most → 0 ≤ measL xs d most n → measL xs d most n ≤ most := by
      intro xs
      induction xs with
      | nil => intro _ d most n h _; exact h
      | cons x xs ihx =>
        intro hm d most n hn
        simp only [measL]
        split
        · intro h; omega
        · rename_i h1
          have := ih x (hm x (List.mem_cons_self)) d (most - n) (by omega)
          exact ihx (fun y hy => hm y (List.mem_cons_of_mem _ hy)) _ _ _ (by omega)
    simp only [measT]
    split
    · intro h; omega
    · split
      · intro h; omega
      · exact hl l (fun _ h => h) _ _ _ (by omega)

theorem measL_drop {l : List Tm} {j : Nat} {x : Tm} (hx : l[j]? = some x) (d most n : Int) : measL (l.drop j) d most n = if measT x d (most - n) < 0 then -1 else measL (l.drop (j + 1)) d most (n + measT x d (most - n)) := by
  have hj := (List.getElem?_eq_some_iff.1 hx).1
  have e : l.drop j = x :: l.drop (j + 1) := by
    rw [List.drop_eq_getElem_cons hj]
    congr 1
    exact (List.getElem?_eq_some_iff.1 hx).2
  rw [e]
  rfl

set_option maxRecDepth 100000 in
set_option maxHeartbeats 2000000 in
theorem meas_any (t : Tm) : ∀ (own : Bool) (G : Nat → Prop) (v : Value) (d most : Int) (w : World), TmV w own G v t → cntT t ≤ 100000000 → 0 ≤ d → d ≤ 1000000000 → 0 ≤ most → most ≤ 1000000000 →
    Calls Try.prog 34 #[v, .int .i64 d, .int .i64 most] w fun e w' => e = .returned (.int .i64 (measT t d most)) ∧ Ext w w' := by
  induction t using Tm.ind with
  | h t ih =>
    obtain ⟨k, n, f, s, L⟩ := t
    intro own G v d most w hv hcnt hd1 hd2 hm1 hm2
    obtain ⟨so, cap, rfl, hrow⟩ := hv.parts
    have hon := own_nonneg (.mk k n f s L)
    simp only [Tm.l] at ih
    simp only [cntT] at hcnt
    simp only [measT, ownT, Tm.kind, Tm.l] at hon ⊢
    clear hv
    have hll := len_cnt L
    have hown := fun w => rown_any k n f s so L.length cap w (by omega)
    obtain ⟨o, ho⟩ : ∃ o, ownV k L.length = o := ⟨_, rfl⟩
    simp only [ho] at hown hon ⊢
    by_cases h1 : d < 1
    · have b1 : decide (d < 1) = true := decide_eq_true h1
      rw [if_pos h1]
      clear h1 ih hrow hown ho hcnt hll
      go_enter Try.func34, Try.ntmps34
      go_wp2_with fail
      go_ret
      exact ⟨rfl, (Ext.refl w).alloc _⟩
    have b1 : decide (d < 1) = false := decide_eq_false h1
    rw [if_neg h1]
    by_cases h2 : most < o
    · have b2 : decide (most < o) = true := decide_eq_true h2
      rw [if_pos h2]
      clear h1 h2 ih hrow ho hcnt hll
      go_enter Try.func34, Try.ntmps34
      go_wp2_with (go_at_call 38; (with_reducible refine (hown _).mono ?_); rintro e wa ⟨rfl, hEa⟩)
      go_ret
      exact ⟨rfl, ((Ext.refl w).alloc _).trans hEa⟩
    have b2 : decide (most < o) = false := decide_eq_false h2
    rw [if_neg h2]
    obtain ⟨F, hF⟩ : ∃ F, measL L (d - 1) most o = F := ⟨_, rfl⟩
    rw [hF]
    have e3 : IntKind.i64.wrap (d - 1) = d - 1 := IntWalk.i64_in _ (by omega)
    have HIH := Lib.hid ih
    have HC := Lib.hid (And.intro hcnt hll)
    have HE := Lib.hid ((Ext.refl w).alloc (.cells #[.int .i64 k, .int .i64 n, .float .f64 f, .string s, .slice so L.length cap] 25))
    have HR := Lib.hid (hrow.ext HE.out)
    have HF := Lib.hid hF
    have HB := Lib.hid (RBox.new w k n f s so L.length cap)
    have HD := Lib.hid (And.intro hd1 (And.intro hd2 (And.intro hm1 (And.intro hm2 (And.intro h1 (And.intro h2 hon))))))
    clear ih hrow hF h1 h2 hd1 hd2 hm1 hm2 hon ho hcnt hll
    go_enter Try.func34, Try.ntmps34
    go_upto_region 1 with (fail)
    obtain ⟨w1, hw1⟩ : ∃ w1, w.alloc (.cells #[.int .i64 k, .int .i64 n, .float .f64 f, .string s, .slice so L.length cap] 25) = w1 := ⟨_, rfl⟩
    rw [hw1] at HB HR HE ⊢
    clear hw1
    obtain ⟨z0, z1, z2, z3, z4⟩ := HB.out.cells
    go_wp2_with fail
    refine (hown w1).mono ?_
    rintro e wa ⟨rfl, hEa⟩
    obtain ⟨y0, y1, y2, y3, y4⟩ := (HB.out.ext hEa).cells
    have HEa := Lib.hid hEa
    clear hEa z0 z1 z2 z3 z4
    go_wp2_with fail
    refine (hown wa).mono ?_
    rintro e wb ⟨rfl, hEb⟩
    have HEb := Lib.hid (HEa.out.trans hEb)
    clear hEb y0 y1 y2 y3 y4 HEa hown wa
    go_wp2_with fail
    go_loopg [7, 8, 9] L.length (fun g x i m wr => Hid (Ext w1 wr) ∧ ∃ (j : Nat) (y : Int), j + g = L.length ∧ i = .int .i64 j ∧ x = .int .i64 y ∧ Hid (measL (L.drop j) (d - 1) most y = F ∧ 0 ≤ y ∧ y ≤ most))
    case atStart => exact ⟨HEb, 0, o, by omega, rfl, rfl, Lib.hid ⟨HF.out, by have := HD.out; omega, by have := HD.out; omega⟩⟩
    case round =>
      clear HEb
      obtain ⟨HEr, j, y, hj, rfl, rfl, HY⟩ := hrel
      obtain ⟨_, _, _, _, hc4⟩ := (HB.out.ext HEr.out).cells
      by_cases hlt : j < L.length
      · have c1 : decide ((j : Int) < (L.length : Int)) = true := decide_eq_true (by omega)
        have c1' : decide (j < L.length) = true := decide_eq_true hlt
        obtain ⟨x, hx⟩ : ∃ x, L[j]? = some x := ⟨L[j]'hlt, List.getElem?_eq_getElem hlt⟩
        obtain ⟨b, oo, so', cap', rfl, q0, q1, q2, q3, q4, htm⟩ := (HR.out.ext HEr.out).elem hx
        have hmem := List.mem_of_getElem? hx
        have hcall := HIH.out x hmem own G _ (d - 1) (most - y) wr htm (by have := HC.out; have := cnt_mem hmem; omega) (by have := HD.out; omega) (by have := HD.out; omega) (by have := HY.out; omega) (by have := HY.out; have := HD.out; omega)
        obtain ⟨r, hr⟩ : ∃ r, measT x (d - 1) (most - y) = r := ⟨_, rfl⟩
        have hle := meas_le x (d - 1) (most - y)
        have hcs := meas_cases x (d - 1) (most - y)
        have hdr := measL_drop hx (d - 1) most y
        rw [hr] at hcall hle hcs hdr
        unfold elV at hcall
        have e4 : IntKind.i64.wrap (most - y) = most - y := IntWalk.i64_in _ (by have := HY.out; have := HD.out; omega)
        have e2 : IntKind.i64.wrap ((j : Int) + 1) = ((j + 1 : Nat) : Int) := by rw [IntWalk.i64_in _ (by have := HC.out; omega)]; rfl
        by_cases hneg : r < 0
        · have c3 : decide (r < 0) = true := decide_eq_true hneg
          have HRES := Lib.hid (show F = -1 by rw [← HY.out.1, hdr, if_pos hneg])
          clear htm hx hr hle hcs hdr hmem hneg
          go_wp2_with fail
          refine hcall.mono ?_
          rintro e w2 ⟨rfl, hE2⟩
          have HE2 := Lib.hid (HEr.out.trans hE2)
          clear hcall hE2 q0 q1 q2 q3 q4 hc4
          go_wp2_with fail
          go_ret
          exact ⟨by rw [HRES.out]; rfl, HE.out.trans HE2.out⟩
        · have c3 : decide (r < 0) = false := decide_eq_false hneg
          have e5 : IntKind.i64.wrap (y + r) = y + r := IntWalk.i64_in _ (by have := HY.out; have := HD.out; omega)
          have HN := Lib.hid (show measL (L.drop (j + 1)) (d - 1) most (y + r) = F ∧ 0 ≤ y + r ∧ y + r ≤ most by
            refine ⟨?_, by have := HY.out; omega, by have := hle (by omega); omega⟩
            rw [← HY.out.1, hdr, if_neg hneg])
          clear htm hx hr hle hcs hdr hmem hneg
          go_wp2_with fail
          refine hcall.mono ?_
          rintro e w2 ⟨rfl, hE2⟩
          have HE2 := Lib.hid (HEr.out.trans hE2)
          clear hcall hE2 q0 q1 q2 q3 q4 hc4
          go_wp2_with fail
          go_roundg (L.length - j - 1)
          case measure => omega
          case rel => exact ⟨HE2, j + 1, y + r, by omega, rfl, rfl, HN⟩
      · have c1 : decide ((j : Int) < (L.length : Int)) = false := decide_eq_false (by omega)
        have c1' : decide (j < L.length) = false := decide_eq_false hlt
        have hres : y = F := by
          have := HY.out.1
          rw [List.drop_eq_nil_of_le (by omega)] at this
          exact this
        have HRES := Lib.hid hres
        clear hres
        go_wp2_with fail
        go_ret
        exact ⟨by rw [HRES.out]; rfl, HE.out.trans HEr.out⟩

end Go.Proofs.Ytdimmomjildpcaa
