/- Few: how many parts a term has. -/
import Derived.Test.YtdimmomjildpcaaFltA
namespace Go.Proofs.Ytdimmomjildpcaa
open Go.RowKit
attribute [local irreducible] Ext

theorem few_range (t : Tm) : ∀ (left deep : Int), -1 ≤ left → -1 ≤ fewT t left deep ∧ fewT t left deep ≤ left := by
  induction t using Tm.ind with
  | h t ih =>
    obtain ⟨k, n, f, s, l⟩ := t
    intro left deep h
    have hl : ∀ (xs : List Tm), (∀ x ∈ xs, x ∈ l) → ∀ (left deep : Int), -1 ≤ left → -1 ≤ fewL xs left deep ∧ fewL xs left deep ≤ left := by
      intro xs
      induction xs with
      | nil => intro _ left deep h; simp only [fewL]; omega
      | cons x xs ihx =>
        intro hm left deep h
        simp only [fewL]
        split
        · omega
        · have h1 := ih x (hm x (List.mem_cons_self)) left (deep - 1) h
          have h2 := ihx (fun y hy => hm y (List.mem_cons_of_mem _ hy)) (fewT x left (deep - 1)) deep h1.1
          omega
    simp only [fewT]
    split
    · omega
    · have := hl l (fun _ h => h) (left - 1) deep (by omega)
      omega

theorem few_less (t : Tm) (left deep : Int) (h : 0 ≤ left) : fewT t left deep ≤ left - 1 := by
  have hL : ∀ (xs : List Tm) (left deep : Int), -1 ≤ left → fewL xs left deep ≤ left := by
    intro xs
    induction xs with
    | nil => intro left deep h; simp only [fewL]; omega
    | cons x xs ihx =>
      intro left deep h
      simp only [fewL]
      split
      · omega
      · have h1 := few_range x left (deep - 1) h
        have h2 := ihx (fewT x left (deep - 1)) deep h1.1
        omega
  obtain ⟨k, n, f, s, l⟩ := t
  simp only [fewT]
  split
  · omega
  · exact hL l (left - 1) deep (by omega)

theorem fewL_stop (xs : List Tm) {left : Int} (deep : Int) (h : left < 0) : fewL xs left deep = left := by
  cases xs with
  | nil => rfl
  | cons x xs => simp only [fewL]; rw [if_pos h]

theorem fewL_drop {l : List Tm} {j : Nat} {x : Tm} (hx : l[j]? = some x) {left : Int} (deep : Int) (h : ¬ left < 0) : fewL (l.drop j) left deep = fewL (l.drop (j + 1)) (fewT x left (deep - 1)) deep := by
  have hj := (List.getElem?_eq_some_iff.1 hx).1
  have e : l.drop j = x :: l.drop (j + 1) := by
    rw [List.drop_eq_getElem_cons hj]
    congr 1
    exact (List.getElem?_eq_some_iff.1 hx).2
  rw [e]
  simp only [fewL]
  rw [if_neg h]

set_option maxRecDepth 100000 in
set_option maxHeartbeats 2000000 in
theorem few_any (t : Tm) : ∀ (own : Bool) (G : Nat → Prop) (v : Value) (left deep : Int) (w : World), TmV w own G v t → -1 ≤ left → left ≤ 1000000000 → -1 ≤ deep → deep ≤ 1000000000 →
    Calls Try.prog 16 #[v, .int .i64 left, .int .i64 deep] w fun e w' => e = .returned (.int .i64 (fewT t left deep)) ∧ Ext w w' := by
  induction t using Tm.ind with
  | h t ih =>
    obtain ⟨k, n, f, s, L⟩ := t
    intro own G v left deep w hv hl1 hl2 hd1 hd2
    obtain ⟨so, cap, rfl, hrow⟩ := hv.parts
    simp only [Tm.l] at ih
    simp only [fewT]
    clear hv
    by_cases h1 : left < 0
    · have b1 : decide (left < 0) = true := decide_eq_true h1
      rw [if_pos (.inl h1)]
      clear h1 ih hrow
      go_enter Try.func16, Try.ntmps16
      go_wp2_with fail
      go_ret
      exact ⟨rfl, (Ext.refl w).alloc _⟩
    have b1 : decide (left < 0) = false := decide_eq_false h1
    by_cases h2 : deep < 0
    · have b2 : decide (deep < 0) = true := decide_eq_true h2
      rw [if_pos (.inr h2)]
      clear h1 h2 ih hrow
      go_enter Try.func16, Try.ntmps16
      go_wp2_with fail
      go_ret
      exact ⟨rfl, (Ext.refl w).alloc _⟩
    have b2 : decide (deep < 0) = false := decide_eq_false h2
    rw [if_neg (by omega)]
    obtain ⟨F, hF⟩ : ∃ F, fewL L (left - 1) deep = F := ⟨_, rfl⟩
    rw [hF]
    have e1 : IntKind.i64.wrap (left - 1) = left - 1 := IntWalk.i64_in _ (by omega)
    have e3 : IntKind.i64.wrap (deep - 1) = deep - 1 := IntWalk.i64_in _ (by omega)
    have HIH := Lib.hid ih
    have HE := Lib.hid ((Ext.refl w).alloc (.cells #[.int .i64 k, .int .i64 n, .float .f64 f, .string s, .slice so L.length cap] 25))
    have HR := Lib.hid (hrow.ext HE.out)
    have HF := Lib.hid hF
    have HB := Lib.hid (RBox.new w k n f s so L.length cap)
    have HD := Lib.hid (And.intro hl1 (And.intro hl2 (And.intro hd1 (And.intro hd2 (And.intro h1 h2)))))
    clear ih hrow hF h1 h2 hl1 hl2 hd1 hd2
    go_enter Try.func16, Try.ntmps16
    go_wp2_with fail
    obtain ⟨w1, hw1⟩ : ∃ w1, w.alloc (.cells #[.int .i64 k, .int .i64 n, .float .f64 f, .string s, .slice so L.length cap] 25) = w1 := ⟨_, rfl⟩
    rw [hw1] at HB HR HE ⊢
    clear hw1
    go_loopg [1, 7] L.length (fun g x i wr => Hid (Ext w1 wr) ∧ ∃ (j : Nat) (y : Int), j + g = L.length ∧ i = .int .i64 j ∧ x = .int .i64 y ∧ Hid (fewL (L.drop j) y deep = F ∧ -1 ≤ y ∧ y + j ≤ 1000000000))
    case atStart => exact ⟨Lib.hid (Ext.refl _), 0, left - 1, by omega, rfl, rfl, Lib.hid ⟨HF.out, by have := HD.out; omega, by have := HD.out; omega⟩⟩
    case round =>
      obtain ⟨HEr, j, y, hj, rfl, rfl, HY⟩ := hrel
      obtain ⟨_, _, _, _, hc4⟩ := (HB.out.ext HEr.out).cells
      by_cases hlt : j < L.length
      · have c1 : decide ((j : Int) < (L.length : Int)) = true := decide_eq_true (by omega)
        have c1' : decide (j < L.length) = true := decide_eq_true hlt
        by_cases hy : y < 0
        · have c2 : decide (0 ≤ y) = false := decide_eq_false (by omega)
          have hres : y = F := by rw [← HY.out.1, fewL_stop _ _ hy]
          have HRES := Lib.hid hres
          clear hres
          go_wp2_with fail
          go_ret
          exact ⟨by rw [HRES.out]; rfl, HE.out.trans HEr.out⟩
        · have c2 : decide (0 ≤ y) = true := decide_eq_true (by omega)
          obtain ⟨x, hx⟩ : ∃ x, L[j]? = some x := ⟨L[j]'hlt, List.getElem?_eq_getElem hlt⟩
          obtain ⟨b, o, so', cap', rfl, q0, q1, q2, q3, q4, htm⟩ := (HR.out.ext HEr.out).elem hx
          have hcall := HIH.out x (List.mem_of_getElem? hx) own G _ y (deep - 1) wr htm HY.out.2.1 (by have := HY.out.2.2; omega) (by have := HD.out; omega) (by have := HD.out; omega)
          obtain ⟨r, hr⟩ : ∃ r, fewT x y (deep - 1) = r := ⟨_, rfl⟩
          have hrr := few_range x y (deep - 1) HY.out.2.1
          have hls := few_less x y (deep - 1) (by omega)
          rw [hr] at hcall hrr hls
          unfold elV at hcall
          have HN := Lib.hid (show fewL (L.drop (j + 1)) r deep = F by rw [← hr, ← fewL_drop hx deep hy]; exact HY.out.1)
          have HRR := Lib.hid (And.intro hrr.1 (show r + ((j + 1 : Nat) : Int) ≤ 1000000000 by have := HY.out.2.2; omega))
          have e2 : IntKind.i64.wrap ((j : Int) + 1) = ((j + 1 : Nat) : Int) := by rw [IntWalk.i64_in _ (by have := HY.out.2.2; omega)]; rfl
          clear htm hx hr hrr hls
          go_wp2_with fail
          refine hcall.mono ?_
          rintro e w2 ⟨rfl, hE2⟩
          have HE2 := Lib.hid (HEr.out.trans hE2)
          clear hcall hE2 q0 q1 q2 q3 q4 hc4
          go_wp2_with fail
          go_roundg (L.length - j - 1)
          case measure => omega
          case rel => exact ⟨HE2, j + 1, r, by omega, rfl, rfl, Lib.hid ⟨HN.out, HRR.out⟩⟩
      · have c1 : decide ((j : Int) < (L.length : Int)) = false := decide_eq_false (by omega)
        have c1' : decide (j < L.length) = false := decide_eq_false hlt
        have hres : y = F := by
          have := HY.out.1
          rw [List.drop_eq_nil_of_le (by omega)] at this
          exact this
        have HRES := Lib.hid hres
        clear hres
        go_wp2_with fail
        go_ret
        exact ⟨by rw [HRES.out]; rfl, HE.out.trans HEr.out⟩

end Go.Proofs.Ytdimmomjildpcaa
