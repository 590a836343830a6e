/- May a signal be put? The program's test. -/
import Derived.Test.YtdimmomjildpcaaExSig
namespace Go.Proofs.Ytdimmomjildpcaa
open Go.RowKit
attribute [local irreducible] Ext
attribute [local go_sem] run_store_float

def echkB (fr tt kd rf : Int) (x1 n0 n1 n2 x4 x5 ln : Bool) (nm : ByteArray) (c : Int) : Int :=
  if fr < 0 then 1 else if 1099511627776 < fr then 1 else if tt < 1 then 1 else if 1099511627776 < tt then 1 else if kd < 1 then 1 else if 8 < kd then 1
  else if x1 = true ∧ c ≠ 0 then 4 else if x1 = false ∧ n0 = false then 4
  else if n1 = false then 1 else if n2 = false then 1 else if 1099511627776 < rf then 1
  else if ln = true ∧ x4 = false then 1 else if nm ≠ ⟨#[]⟩ ∧ x5 = false then 1 else 0

/-- What Check tells of a signal; c: what it tells of the term. -/
def echk (fr tt kd id rf : Int) (ln : Bool) (nm : ByteArray) (k n : Int) (f : Nat) (s : ByteArray) (m : Nat) (c : Int) : Int :=
  echkB fr tt kd rf (hasT kd) (nothB k n f s m) (numB id (hasI kd)) (numB rf (hasR kd)) (hasL kd) (hasN kd) ln nm c

set_option maxRecDepth 100000 in
set_option maxHeartbeats 4000000 in
theorem echeck_any (fr tt kd id rf : Int) (ln : Bool) (nm : ByteArray) {k n : Int} {f : Nat} {s : ByteArray} {L : List Tm} {own : Bool} {G : Nat → Prop} {so : Option Addr} (cap : Nat) (w : World)
    (hrow : RowIn w own G L so 0) (hc : cntL L + 1 ≤ 100000000) (hok : okT (.mk k n f s L)) :
    Calls Try.prog 8 #[.agg #[.int .i64 fr, .int .i64 tt, .int .i64 kd, .int .i64 id, .int .i64 rf, .bool ln, .string nm, .int .i64 k, .int .i64 n, .float .f64 f, .string s, .slice so L.length cap]] w fun e w' =>
      e = .returned (.int .i64 (echk fr tt kd id rf ln nm k n f s L.length (checkT (.mk k n f s L)))) ∧ Ext w w' := by
  have HK := Lib.hid (fun w (hr : RowIn w own G L so 0) => pcheck_any w (TmV.of_parts (k := k) (n := n) (f := f) (s := s) (cap := cap) hr) (by simpa only [cntT] using hc) hok)
  have HN := Lib.hid (fun w => nothing_any k n f s so L.length cap w)
  have HHAS := Lib.hid (fun w => has_any kd w)
  obtain ⟨c, hcc⟩ : ∃ c, checkT (.mk k n f s L) = c := ⟨_, rfl⟩
  unfold echk
  obtain ⟨x1, h1⟩ : ∃ x, hasT kd = x := ⟨_, rfl⟩
  obtain ⟨x2, h2⟩ : ∃ x, hasI kd = x := ⟨_, rfl⟩
  obtain ⟨x3, h3⟩ : ∃ x, hasR kd = x := ⟨_, rfl⟩
  obtain ⟨x4, h4⟩ : ∃ x, hasL kd = x := ⟨_, rfl⟩
  obtain ⟨x5, h5⟩ : ∃ x, hasN kd = x := ⟨_, rfl⟩
  rw [h1, h2, h3, h4, h5] at HHAS
  rw [hcc, h1, h2, h3, h4, h5]
  rw [hcc] at HK
  obtain ⟨n0, g0⟩ : ∃ x, nothB k n f s L.length = x := ⟨_, rfl⟩
  rw [g0] at HN ⊢
  have HM1 := Lib.hid (fun w => number_any id x2 w)
  have HM2 := Lib.hid (fun w => number_any rf x3 w)
  obtain ⟨n1, g1⟩ : ∃ x, numB id x2 = x := ⟨_, rfl⟩
  obtain ⟨n2, g2⟩ : ∃ x, numB rf x3 = x := ⟨_, rfl⟩
  rw [g1] at HM1 ⊢
  rw [g2] at HM2 ⊢
  obtain ⟨A, hA⟩ : ∃ A, echkB fr tt kd rf x1 n0 n1 n2 x4 x5 ln nm c = A := ⟨_, rfl⟩
  rw [hA]
  have HA := Lib.hid hA
  have HS := Lib.hid (str_nil nm)
  clear hcc h1 h2 h3 h4 h5 g0 g1 g2 hA hc hok
  have hB := SBox.new w fr tt kd id rf ln nm k n f s so L.length cap
  have hE := (Ext.refl w).alloc (.cells #[.int .i64 fr, .int .i64 tt, .int .i64 kd, .int .i64 id, .int .i64 rf, .bool ln, .string nm, .int .i64 k, .int .i64 n, .float .f64 f, .string s, .slice so L.length cap] 27)
  obtain ⟨w1, hw1⟩ : ∃ w1, w.alloc (.cells #[.int .i64 fr, .int .i64 tt, .int .i64 kd, .int .i64 id, .int .i64 rf, .bool ln, .string nm, .int .i64 k, .int .i64 n, .float .f64 f, .string s, .slice so L.length cap] 27) = w1 := ⟨_, rfl⟩
  rw [hw1] at hB hE
  have HR := Lib.hid (hrow.ext hE)
  have HE := Lib.hid hE
  have HB := Lib.hid hB
  have HW := Lib.hid hw1
  obtain ⟨c0, c1, c2, c3, c4, c5, c6, c7, c8, c9, c10, c11⟩ := hB.cells
  clear hrow hB hE hw1
  by_cases a0 : fr < 0
  · have b0 : decide (fr < 0) = true := decide_eq_true a0
    obtain rfl : 1 = A := by rw [← HA.out]; unfold echkB; simp only [if_pos a0]
    clear c3 c4 c5 c6 c7 c8 c9 c10 c11
    go_enter Try.func8, Try.ntmps8
    go_upto_region 1 with (fail)
    rw [HW.out]
    go_wp2_with fail
    go_ret
    exact ⟨rfl, HE.out⟩
  have b0 : decide (fr < 0) = false := decide_eq_false a0
  by_cases a1 : 1099511627776 < fr
  · have b1 : decide (1099511627776 < fr) = true := decide_eq_true a1
    obtain rfl : 1 = A := by rw [← HA.out]; unfold echkB; simp only [if_neg a0, if_pos a1]
    clear c3 c4 c5 c6 c7 c8 c9 c10 c11
    go_enter Try.func8, Try.ntmps8
    go_upto_region 1 with (fail)
    rw [HW.out]
    go_wp2_with fail
    go_ret
    exact ⟨rfl, HE.out⟩
  have b1 : decide (1099511627776 < fr) = false := decide_eq_false a1
  by_cases a2 : tt < 1
  · have b2 : decide (tt < 1) = true := decide_eq_true a2
    obtain rfl : 1 = A := by rw [← HA.out]; unfold echkB; simp only [if_neg a0, if_neg a1, if_pos a2]
    clear c3 c4 c5 c6 c7 c8 c9 c10 c11
    go_enter Try.func8, Try.ntmps8
    go_upto_region 1 with (fail)
    rw [HW.out]
    go_wp2_with fail
    go_ret
    exact ⟨rfl, HE.out⟩
  have b2 : decide (tt < 1) = false := decide_eq_false a2
  by_cases a3 : 1099511627776 < tt
  · have b3 : decide (1099511627776 < tt) = true := decide_eq_true a3
    obtain rfl : 1 = A := by rw [← HA.out]; unfold echkB; simp only [if_neg a0, if_neg a1, if_neg a2, if_pos a3]
    clear c3 c4 c5 c6 c7 c8 c9 c10 c11
    go_enter Try.func8, Try.ntmps8
    go_upto_region 1 with (fail)
    rw [HW.out]
    go_wp2_with fail
    go_ret
    exact ⟨rfl, HE.out⟩
  have b3 : decide (1099511627776 < tt) = false := decide_eq_false a3
  by_cases a4 : kd < 1
  · have b4 : decide (kd < 1) = true := decide_eq_true a4
    obtain rfl : 1 = A := by rw [← HA.out]; unfold echkB; simp only [if_neg a0, if_neg a1, if_neg a2, if_neg a3, if_pos a4]
    clear c3 c4 c5 c6 c7 c8 c9 c10 c11
    go_enter Try.func8, Try.ntmps8
    go_upto_region 1 with (fail)
    rw [HW.out]
    go_wp2_with fail
    go_ret
    exact ⟨rfl, HE.out⟩
  have b4 : decide (kd < 1) = false := decide_eq_false a4
  by_cases a5 : 8 < kd
  · have b5 : decide (8 < kd) = true := decide_eq_true a5
    obtain rfl : 1 = A := by rw [← HA.out]; unfold echkB; simp only [if_neg a0, if_neg a1, if_neg a2, if_neg a3, if_neg a4, if_pos a5]
    clear c3 c4 c5 c6 c7 c8 c9 c10 c11
    go_enter Try.func8, Try.ntmps8
    go_upto_region 1 with (fail)
    rw [HW.out]
    go_wp2_with fail
    go_ret
    exact ⟨rfl, HE.out⟩
  have b5 : decide (8 < kd) = false := decide_eq_false a5
  have HQ := Lib.hid (show echkB fr tt kd rf x1 n0 n1 n2 x4 x5 ln nm c = if x1 = true ∧ c ≠ 0 then 4 else if x1 = false ∧ n0 = false then 4 else if n1 = false then 1 else if n2 = false then 1 else if 1099511627776 < rf then 1 else if ln = true ∧ x4 = false then 1 else if nm ≠ ⟨#[]⟩ ∧ x5 = false then 1 else 0 by unfold echkB; simp only [if_neg a0, if_neg a1, if_neg a2, if_neg a3, if_neg a4, if_neg a5])
  clear a0 a1 a2 a3 a4 a5
  go_enter Try.func8, Try.ntmps8
  go_upto_region 1 with (fail)
  rw [HW.out]
  cases x1
  all_goals
    go_wp2_with (first
      | (go_at_call 17; (with_reducible refine (HHAS.out _).mono ?_); rintro e w2 ⟨rfl, rfl⟩)
      | (go_at_call 18; (with_reducible refine (HK.out _ HR.out).mono ?_); rintro e w2 ⟨rfl, hE2⟩; obtain ⟨d0, d1, d2, d3, d4, d5, d6, d7, d8, d9, d10, d11⟩ := (HB.out.ext hE2).cells; have HE := Lib.hid (HE.out.trans hE2); clear hE2 c0 c1 c2 c3 c4 c5 c6 c7 c8 c9 c10 c11)
      | (go_at_call 19; (with_reducible refine (HN.out _).mono ?_); rintro e w2 ⟨rfl, hE2⟩; obtain ⟨d0, d1, d2, d3, d4, d5, d6, d7, d8, d9, d10, d11⟩ := (HB.out.ext hE2).cells; have HE := Lib.hid (HE.out.trans hE2); clear hE2 c0 c1 c2 c3 c4 c5 c6 c7 c8 c9 c10 c11)
      | (go_at_call 20; (with_reducible first | refine (HM1.out _).mono ?_ | refine (HM2.out _).mono ?_); rintro e w2 ⟨rfl, rfl⟩)
      | fail)
  all_goals go_ret
  all_goals refine ⟨?_, HE.out⟩
  all_goals
    (have h1 := HS.out
     have h2 := HA.out
     rw [HQ.out] at h2
     clear d0 d1 d2 d3 d4 d5 d6 d7 d8 d9 d10 d11 HA HQ HE HB HR HS HK HN HHAS HM1 HM2 b0 b1 b2 b3 b4 b5
     subst h2
     simp_all)

end Go.Proofs.Ytdimmomjildpcaa
