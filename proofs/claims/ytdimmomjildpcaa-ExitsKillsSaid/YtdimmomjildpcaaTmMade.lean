/- A tuple, a list of terms: term.made. -/
import Derived.Test.YtdimmomjildpcaaTmCopy
import Derived.Test.YtdimmomjildpcaaTmLook
namespace Go.Proofs.Ytdimmomjildpcaa
open Go.RowKit
attribute [local irreducible] Ext
attribute [local go_sem] run_store_float

/-- What is told of the first wrong one. -/
def firstT : List Tm → Int
  | [] => 0
  | x :: xs => if checkT x = 0 then firstT xs else checkT x

theorem firstT_drop {l : List Tm} {j : Nat} {x : Tm} (hx : l[j]? = some x) : firstT (l.drop j) = if checkT x = 0 then firstT (l.drop (j + 1)) else checkT x := by
  obtain ⟨hj, hx'⟩ := List.getElem?_eq_some_iff.1 hx
  rw [List.drop_eq_getElem_cons hj, hx']
  rfl

/-- What made leaves. -/
def MadePost (w : World) (kd : Int) (L : List Tm) (e : Ending) (w' : World) : Prop :=
  ((firstT L ≠ 0 ∧ e = .returned (.tuple #[.agg #[.int .i64 0, .int .i64 0, .float .f64 0, .string ⟨#[]⟩, .slice none 0 0], .int .i64 (firstT L)])) ∨
   (firstT L = 0 ∧ checkT (.mk kd 0 0 ⟨#[]⟩ L) ≠ 0 ∧ e = .returned (.tuple #[.agg #[.int .i64 0, .int .i64 0, .float .f64 0, .string ⟨#[]⟩, .slice none 0 0], .int .i64 12])) ∨
   (firstT L = 0 ∧ checkT (.mk kd 0 0 ⟨#[]⟩ L) = 0 ∧ ∃ so cap, e = .returned (.tuple #[.agg #[.int .i64 kd, .int .i64 0, .float .f64 0, .string ⟨#[]⟩, .slice so L.length cap], .int .i64 0]) ∧ RowIn w' true (fun k => w.heap.size ≤ k) L so 0)) ∧ Ext w w'

set_option maxRecDepth 100000 in
set_option maxHeartbeats 8000000 in
theorem made_any (kd : Int) {L : List Tm} {own : Bool} {G : Nat → Prop} {so : Option Addr} (cap : Nat) (w : World) (hrow : RowIn w own G L so 0) (hc : cntL L + 1 ≤ 100000000) (hok : okL L) :
    Calls Try.prog 37 #[.int .i64 kd, .slice so L.length cap] w fun e w' => MadePost w kd L e w' := by
  have hll := len_cnt L
  have HC := Lib.hid (And.intro hc hll)
  have HOK := Lib.hid hok
  have hE := (Ext.refl w).alloc (.cells #[.int .i64 0, .int .i64 0, .float .f64 0, .string ⟨#[]⟩, .slice none 0 0] 25)
  have hB := RBox.new w 0 0 0 ⟨#[]⟩ none 0 0
  obtain ⟨w1, hw1⟩ : ∃ w1, w.alloc (.cells #[.int .i64 0, .int .i64 0, .float .f64 0, .string ⟨#[]⟩, .slice none 0 0] 25) = w1 := ⟨_, rfl⟩
  rw [hw1] at hE hB
  have HW := Lib.hid hw1
  have HE := Lib.hid hE
  have HB := Lib.hid hB
  have HR := Lib.hid (hrow.ext hE)
  have HA := Lib.hid (show firstT (L.drop 0) = firstT L from rfl)
  have HSZ := Lib.hid hE.size
  clear hw1 hE hB hrow hc hll hok
  go_enter Try.func37, Try.ntmps37
  go_upto_region 1 with (fail)
  rw [HW.out]
  go_wp2_with fail
  go_loopg [7, 8, 12] L.length (fun g x c i wr => ∃ j : Nat, j + g = L.length ∧ i = .int .i64 j ∧ Hid (firstT (L.drop j) = firstT L) ∧ Hid (Ext w1 wr))
  case atStart => exact ⟨0, by omega, rfl, HA, Lib.hid (Ext.refl w1)⟩
  case round =>
    obtain ⟨j, hj, rfl, HF, HX⟩ := hrel
    by_cases hlt : j < L.length
    · have c1 : decide ((j : Int) < (L.length : Int)) = true := decide_eq_true (by omega)
      have c1' : decide (j < L.length) = true := decide_eq_true hlt
      obtain ⟨x, hx⟩ : ∃ x, L[j]? = some x := ⟨L[j]'hlt, List.getElem?_eq_getElem hlt⟩
      obtain ⟨bb, oo, so', cap', rfl, q0, q1, q2, q3, q4, htm⟩ := (HR.out.ext HX.out).elem hx
      have hmem := List.mem_of_getElem? hx
      have hEw : Ext wr (wr.alloc (.cells #[.int .i64 x.kind, .int .i64 x.n, .float .f64 x.f, .string x.s, .slice so' x.l.length cap'] 25)) := (Ext.refl wr).alloc _
      have hcall := fun w2 (h2 : Ext wr w2) => pcheck_any w2 (htm.ext h2) (by have := HC.out; have := cnt_mem hmem; omega) (ok_mem HOK.out hmem)
      obtain ⟨C, hC⟩ : ∃ C, checkT x = C := ⟨_, rfl⟩
      rw [hC] at hcall
      unfold elV at hcall
      have hfd := firstT_drop hx
      rw [hC, HF.out] at hfd
      have HCALL := Lib.hid hcall
      have HFD := Lib.hid hfd
      have e3 : IntKind.i64.wrap ((j : Int) + 1) = ((j + 1 : Nat) : Int) := by rw [IntWalk.i64_in _ (by have := HC.out; omega)]; rfl
      have HEw := Lib.hid hEw
      clear htm hx hmem hEw hcall hC hfd
      by_cases hc0 : C = 0
      · subst hc0
        go_wp2_with (first
          | (go_at_call 18; (with_reducible refine (HCALL.out _ ((Ext.refl _).alloc _)).mono ?_); rintro e w3 ⟨rfl, hE3⟩; have HX3 := Lib.hid ((HX.out.trans HEw.out).trans hE3); clear hE3 q0 q1 q2 q3 q4)
          | fail)
        go_roundg (L.length - j - 1)
        case measure => omega
        case rel => exact ⟨j + 1, by omega, rfl, Lib.hid (by have := HFD.out; simpa using this.symm), HX3⟩
      · have b2 : (C != 0) = true := by simpa using hc0
        have HRES := Lib.hid (show firstT L = C by rw [HFD.out, if_neg hc0])
        have HC0 := Lib.hid hc0
        clear hc0
        go_wp2_with (first
          | (go_at_call 18; (with_reducible refine (HCALL.out _ ((Ext.refl _).alloc _)).mono ?_); rintro e w3 ⟨rfl, hE3⟩; have hX3 := (HX.out.trans HEw.out).trans hE3; have HX3 := Lib.hid hX3; obtain ⟨z0, z1, z2, z3, z4⟩ := (HB.out.ext hX3).cells; have g0 := (HB.out.ext hX3).free 0; have g1 := (HB.out.ext hX3).free 1; have g2 := (HB.out.ext hX3).free 2; have g3 := (HB.out.ext hX3).free 3; have g4 := (HB.out.ext hX3).free 4; clear hE3 hX3 q0 q1 q2 q3 q4)
          | fail)
        obtain ⟨r0, r1, r2, r3, r4⟩ := ((HB.out.ext HX3.out).fill 0 0 0 ⟨#[]⟩ none 0 0).cells
        exact bodyPost_ret (v := .tuple #[.agg #[.int .i64 0, .int .i64 0, .float .f64 0, .string ⟨#[]⟩, .slice none 0 0], .int .i64 C]) (by simp [results, Try.f37, go_sem, r0, r1, r2, r3, r4]) rfl ⟨.inl ⟨by rw [HRES.out]; exact HC0.out, by rw [HRES.out]⟩, ext_set5 (HE.out.trans HX3.out) (Nat.le_refl _) 0 0 0 ⟨#[]⟩ none 0 0⟩
    · have c1 : decide ((j : Int) < (L.length : Int)) = false := decide_eq_false (by omega)
      have c1' : decide (j < L.length) = false := decide_eq_false hlt
      obtain rfl : j = L.length := by omega
      have HF0 := Lib.hid (show firstT L = 0 by have := HF.out; rw [List.drop_length] at this; exact this.symm)
      obtain ⟨C, hC⟩ : ∃ C, checkT (.mk kd 0 0 ⟨#[]⟩ L) = C := ⟨_, rfl⟩
      have HCALL : Hid (∀ w2 : World, RowIn w2 own G L so 0 → Calls Try.prog 18 #[.agg #[.int .i64 kd, .int .i64 0, .float .f64 0, .string ⟨#[]⟩, .slice so L.length cap]] w2 fun e w' => e = .returned (.int .i64 C) ∧ Ext w2 w') := Lib.hid (fun w2 h2 => by
        rw [← hC]
        exact pcheck_any w2 (TmV.of_parts h2) (by have := HC.out; simp only [cntT]; omega) (by unfold okT; exact ⟨by decide, HOK.out⟩))
      have HCC := Lib.hid hC
      have HRX := Lib.hid ((HR.out.ext HX.out).ext ((Ext.refl wr).alloc (.cells #[.int .i64 kd, .int .i64 0, .float .f64 0, .string ⟨#[]⟩, .slice so L.length cap] 25)))
      have HT := Lib.hid (RBox.new wr kd 0 0 ⟨#[]⟩ so L.length cap)
      have HX1 := Lib.hid (HX.out.alloc (.cells #[.int .i64 kd, .int .i64 0, .float .f64 0, .string ⟨#[]⟩, .slice so L.length cap] 25))
      clear hC
      by_cases hc0 : C = 0
      · subst hc0
        have HCP : Hid (∀ w2 : World, RowIn w2 own G L so 0 → Calls Try.prog 25 #[.agg #[.int .i64 kd, .int .i64 0, .float .f64 0, .string ⟨#[]⟩, .slice so L.length cap]] w2 fun e w' => ∃ so2 cap2, e = .returned (.agg #[.int .i64 kd, .int .i64 0, .float .f64 0, .string ⟨#[]⟩, .slice so2 L.length cap2]) ∧ RowIn w' true (fun q => w2.heap.size ≤ q) L so2 0 ∧ Ext w2 w') :=
          Lib.hid (fun w2 h2 => pcopy_any (.mk kd 0 0 ⟨#[]⟩ L) own G _ w2 (TmV.of_parts h2) (by have := HC.out; simp only [cntT]; omega))
        go_upto_region 11 with (first
          | (go_at_call 18; (with_reducible refine (HCALL.out _ HRX.out).mono ?_); rintro e w3 ⟨rfl, hE3⟩; have HX3 := Lib.hid (HX1.out.trans hE3); have HR3 := Lib.hid (HRX.out.ext hE3); obtain ⟨q0, q1, q2, q3, q4⟩ := (HT.out.ext hE3).cells; clear hE3)
          | fail)
        go_wp2_with (first
          | (go_at_call 25; (with_reducible refine (HCP.out _ HR3.out).mono ?_); rintro e w4 ⟨so2, cap2, rfl, hr4, hE4⟩; have hX4 := HX3.out.trans hE4; have HX4 := Lib.hid hX4; have HR4 := Lib.hid hr4; obtain ⟨z0, z1, z2, z3, z4⟩ := (HB.out.ext hX4).cells; have g0 := (HB.out.ext hX4).free 0; have g1 := (HB.out.ext hX4).free 1; have g2 := (HB.out.ext hX4).free 2; have g3 := (HB.out.ext hX4).free 3; have g4 := (HB.out.ext hX4).free 4; clear hX4 hE4 hr4 q0 q1 q2 q3 q4)
          | fail)
        obtain ⟨r0, r1, r2, r3, r4⟩ := ((HB.out.ext HX4.out).fill kd 0 0 ⟨#[]⟩ so2 L.length cap2).cells
        have hrow4 := (HR4.out.keep (set5_mod (F := fun k => k = w.heap.size) (B := w.heap.size) (Mod.refl _ _) (.inl rfl) kd 0 0 ⟨#[]⟩ so2 L.length cap2) (fun k hk e => by have := HX3.out.size; have := HB.out.lt; omega)).mono (G' := fun k => w.heap.size ≤ k) (fun k hk => by have := HX3.out.size; have := HSZ.out; omega)
        exact bodyPost_ret (v := .tuple #[.agg #[.int .i64 kd, .int .i64 0, .float .f64 0, .string ⟨#[]⟩, .slice so2 L.length cap2], .int .i64 0]) (by simp [results, Try.f37, go_sem, r0, r1, r2, r3, r4]) rfl ⟨.inr (.inr ⟨HF0.out, HCC.out, so2, cap2, rfl, hrow4⟩), ext_set5 (HE.out.trans HX4.out) (Nat.le_refl _) kd 0 0 ⟨#[]⟩ so2 L.length cap2⟩
      · have b2 : (C != 0) = true := by simpa using hc0
        have HC0 := Lib.hid hc0
        clear hc0
        go_wp2_with (first
          | (go_at_call 18; (with_reducible refine (HCALL.out _ HRX.out).mono ?_); rintro e w3 ⟨rfl, hE3⟩; have hX3 := HX1.out.trans hE3; have HX3 := Lib.hid hX3; obtain ⟨z0, z1, z2, z3, z4⟩ := (HB.out.ext hX3).cells; have g0 := (HB.out.ext hX3).free 0; have g1 := (HB.out.ext hX3).free 1; have g2 := (HB.out.ext hX3).free 2; have g3 := (HB.out.ext hX3).free 3; have g4 := (HB.out.ext hX3).free 4; clear hE3 hX3)
          | fail)
        obtain ⟨r0, r1, r2, r3, r4⟩ := ((HB.out.ext HX3.out).fill 0 0 0 ⟨#[]⟩ none 0 0).cells
        exact bodyPost_ret (v := .tuple #[.agg #[.int .i64 0, .int .i64 0, .float .f64 0, .string ⟨#[]⟩, .slice none 0 0], .int .i64 12]) (by simp [results, Try.f37, go_sem, r0, r1, r2, r3, r4]) rfl ⟨.inr (.inl ⟨HF0.out, by rw [HCC.out]; exact HC0.out, rfl⟩), ext_set5 (HE.out.trans HX3.out) (Nat.le_refl _) 0 0 0 ⟨#[]⟩ none 0 0⟩

set_option maxRecDepth 100000 in
set_option maxHeartbeats 2000000 in
theorem tuple_any {L : List Tm} {own : Bool} {G : Nat → Prop} {so : Option Addr} (cap : Nat) (w : World) (hrow : RowIn w own G L so 0) (hc : cntL L + 1 ≤ 100000000) (hok : okL L) :
    Calls Try.prog 33 #[.slice so L.length cap] w fun e w' => MadePost w 7 L e w' := by
  have hE := (Ext.refl w).alloc (.cells #[.int .i64 0, .int .i64 0, .float .f64 0, .string ⟨#[]⟩, .slice none 0 0] 25)
  have hB := RBox.new w 0 0 0 ⟨#[]⟩ none 0 0
  obtain ⟨w1, hw1⟩ : ∃ w1, w.alloc (.cells #[.int .i64 0, .int .i64 0, .float .f64 0, .string ⟨#[]⟩, .slice none 0 0] 25) = w1 := ⟨_, rfl⟩
  rw [hw1] at hE hB
  have HW := Lib.hid hw1
  have HE := Lib.hid hE
  have HB := Lib.hid hB
  have HM := Lib.hid (made_any 7 cap w1 (hrow.ext hE) hc hok)
  clear hw1 hE hB hrow hc hok
  go_enter Try.func33, Try.ntmps33
  go_upto_region 1 with (fail)
  rw [HW.out]
  go_wp2_with fail
  refine HM.out.mono ?_
  rintro e w3 ⟨hcase, hE3⟩
  have HX3 := Lib.hid hE3
  obtain ⟨z0, z1, z2, z3, z4⟩ := (HB.out.ext hE3).cells
  have g0 := (HB.out.ext hE3).free 0
  have g1 := (HB.out.ext hE3).free 1
  have g2 := (HB.out.ext hE3).free 2
  have g3 := (HB.out.ext hE3).free 3
  have g4 := (HB.out.ext hE3).free 4
  clear hE3 HM
  rcases hcase with ⟨h0, rfl⟩ | ⟨h0, h1, rfl⟩ | ⟨h0, h1, so2, cap2, rfl, hr⟩
  · have H0 := Lib.hid h0
    obtain ⟨A, hA⟩ : ∃ A, firstT L = A := ⟨_, rfl⟩
    rw [hA]
    have HA := Lib.hid hA
    clear h0 hA
    go_wp2_with fail
    obtain ⟨r0, r1, r2, r3, r4⟩ := ((HB.out.ext HX3.out).fill 0 0 0 ⟨#[]⟩ none 0 0).cells
    exact bodyPost_ret (v := .tuple #[.agg #[.int .i64 0, .int .i64 0, .float .f64 0, .string ⟨#[]⟩, .slice none 0 0], .int .i64 A]) (by simp [results, Try.f33, go_sem, r0, r1, r2, r3, r4]) rfl ⟨.inl ⟨H0.out, by rw [HA.out]⟩, ext_set5 (HE.out.trans HX3.out) (Nat.le_refl _) 0 0 0 ⟨#[]⟩ none 0 0⟩
  · have H0 := Lib.hid (And.intro h0 h1)
    clear h0 h1
    go_wp2_with fail
    obtain ⟨r0, r1, r2, r3, r4⟩ := ((HB.out.ext HX3.out).fill 0 0 0 ⟨#[]⟩ none 0 0).cells
    exact bodyPost_ret (v := .tuple #[.agg #[.int .i64 0, .int .i64 0, .float .f64 0, .string ⟨#[]⟩, .slice none 0 0], .int .i64 12]) (by simp [results, Try.f33, go_sem, r0, r1, r2, r3, r4]) rfl ⟨.inr (.inl ⟨H0.out.1, H0.out.2, rfl⟩), ext_set5 (HE.out.trans HX3.out) (Nat.le_refl _) 0 0 0 ⟨#[]⟩ none 0 0⟩
  · have H0 := Lib.hid (And.intro h0 h1)
    have HR := Lib.hid hr
    clear h0 h1 hr
    go_wp2_with fail
    obtain ⟨r0, r1, r2, r3, r4⟩ := ((HB.out.ext HX3.out).fill 7 0 0 ⟨#[]⟩ so2 L.length cap2).cells
    have hrow4 := (HR.out.keep (set5_mod (F := fun k => k = w.heap.size) (B := w.heap.size) (Mod.refl _ _) (.inl rfl) 7 0 0 ⟨#[]⟩ so2 L.length cap2) (fun k hk e => by have := HB.out.lt; omega)).mono (G' := fun k => w.heap.size ≤ k) (fun k hk => by have := HE.out.size; omega)
    exact bodyPost_ret (v := .tuple #[.agg #[.int .i64 7, .int .i64 0, .float .f64 0, .string ⟨#[]⟩, .slice so2 L.length cap2], .int .i64 0]) (by simp [results, Try.f33, go_sem, r0, r1, r2, r3, r4]) rfl ⟨.inr (.inr ⟨H0.out.1, H0.out.2, so2, cap2, rfl, hrow4⟩), ext_set5 (HE.out.trans HX3.out) (Nat.le_refl _) 7 0 0 ⟨#[]⟩ so2 L.length cap2⟩

end Go.Proofs.Ytdimmomjildpcaa
