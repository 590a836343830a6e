/- Numbers: the document's Whole. -/
import Derived.Test.YtlpifchimnnfdaaDoorNmRefs
import Derived.Test.YtlpifchimnnfdaaDoorNmWhole
import Derived.Test.YtlpifchimnnfdaaDoorFltWays
namespace Go.Proofs.YtlpifchimnnfdaaDoor
open Go.RowKit Ieee
attribute [local irreducible] Ext
attribute [local go_sem] run_store_float

theorem ord_half {p : Nat} (hp : fin p) : FloatKind.f64.format.order p 4602678819172646912 = some (if 2 * fval p < (unit : Int) then .lt else if (unit : Int) < 2 * fval p then .gt else .eq) := by
  have h := order_tests' hp valh.1
  have hv := valh.2.1
  rw [h]
  generalize fval 4602678819172646912 = H at hv ⊢
  by_cases a : 2 * fval p < (unit : Int)
  · rw [if_pos a, if_pos (show fval p < H by omega)]
  · by_cases b : (unit : Int) < 2 * fval p
    · rw [if_neg a, if_pos b, if_neg (show ¬ fval p < H by omega), if_pos (show H < fval p by omega)]
    · rw [if_neg a, if_neg b, if_neg (show ¬ fval p < H by omega), if_neg (show ¬ H < fval p by omega)]

theorem ord_mhalf {p : Nat} (hp : fin p) : FloatKind.f64.format.order p 13826050856027422720 = some (if 2 * fval p < -(unit : Int) then .lt else if -(unit : Int) < 2 * fval p then .gt else .eq) := by
  have h := order_tests' hp valh.2.2.1
  have hv := valh.2.2.2
  rw [h]
  generalize fval 13826050856027422720 = H at hv ⊢
  by_cases a : 2 * fval p < -(unit : Int)
  · rw [if_pos a, if_pos (show fval p < H by omega)]
  · by_cases b : -(unit : Int) < 2 * fval p
    · rw [if_neg a, if_pos b, if_neg (show ¬ fval p < H by omega), if_pos (show H < fval p by omega)]
    · rw [if_neg a, if_neg b, if_neg (show ¬ fval p < H by omega), if_neg (show ¬ H < fval p by omega)]

/-- All four ways, by the whole part and what is left. -/
theorem ways_near (j : Nat) (f : Nat) : ftrunc f - 1 ≤ wholeW j f ∧ wholeW j f ≤ ftrunc f + 1 ∧ (0 ≤ rest f → ftrunc f ≤ wholeW j f) ∧ (rest f ≤ 0 → wholeW j f ≤ ftrunc f) := by
  have h1 := way_down f
  have h2 := way_up f
  have h3 := way_round f
  have hp := unitI_pos
  unfold wholeW
  split
  · have : wholeI .zero f = ftrunc f := rfl
    rw [this]
    omega
  · rw [h3]
    by_cases a : (unit : Int) ≤ 2 * rest f
    · rw [if_pos a, if_neg (by omega)]; omega
    · by_cases b : 2 * rest f ≤ -(unit : Int)
      · rw [if_neg a, if_pos b]; omega
      · rw [if_neg a, if_neg b]; omega
  · rw [h1]; split <;> omega
  · rw [h2]; split <;> omega

theorem whole_big (j : Nat) (f : Nat) : (1152921504606846976 * (unit : Int) ≤ fval f → 576460752303423488 ≤ wholeW j f) ∧ (fval f ≤ -1152921504606846976 * (unit : Int) → wholeW j f < -576460752303423488) := by
  obtain ⟨h1, h2, _, _⟩ := ways_near j f
  have a := (trunc_lt (b := f) (n := 1152921504606846976)).1
  have b := (trunc_lt (b := f) (n := -1152921504606846976)).2
  constructor
  · intro h
    by_cases c : ftrunc f < 1152921504606846976
    · have := a c; omega
    · omega
  · intro h
    by_cases c : -1152921504606846976 < ftrunc f
    · have := b c; omega
    · omega

set_option maxRecDepth 100000 in
set_option maxHeartbeats 4000000 in
theorem rwhole_bad (how : ByteArray) (hb : ∀ j, j < 4 → (how.toList == howL j) = false) (k n : Int) (f : Nat) (s : ByteArray) (so : Option Addr) (m cap : Nat) (w : World) :
    Calls Tryd.prog 54 #[.string how, .agg #[.int .i64 k, .int .i64 n, .float .f64 f, .string s, .slice so m cap]] w fun e w' => AnyPost w (nV 0 0 0 13) e w' := by
  have b1 : (how.toList == [116, 114, 117, 110, 99]) = false := hb 0 (by decide)
  have b2 : (how.toList == [114, 111, 117, 110, 100]) = false := hb 1 (by decide)
  have b3 : (how.toList == [102, 108, 111, 111, 114]) = false := hb 2 (by decide)
  have b4 : (how.toList == [99, 101, 105, 108]) = false := hb 3 (by decide)
  clear hb
  obtain ⟨w2, hw, hO⟩ := one_start w k n f s so m cap
  have HW := Lib.hid hw
  obtain ⟨hz, hY⟩ := hO.fill 0 0 0
  obtain ⟨⟨g0, g1, g2, g3, g4⟩, ⟨a0, a1, a2, a3, a4⟩, s0, s1, s2, s3, s4⟩ := hz
  unfold set5 at s0 s1 s2 s3 s4
  have HY := Lib.hid hY
  clear hw hO hY
  go_enter Tryd.func54, Tryd.ntmps54
  go_upto_region 1 with (fail)
  rw [HW.out]
  go_wp2_with fail
  exact bodyPost_ret (v := nV 0 0 0 13) (by simp [results, nV, Tryd.f54, go_sem, s0, s1, s2, s3, s4]) rfl ⟨0, 0, 0, none, 0, 13, rfl, rfl, HY.out⟩

set_option maxRecDepth 100000 in
set_option maxHeartbeats 8000000 in
theorem rwhole_0 (how : ByteArray) (hb : how.toList = [116, 114, 117, 110, 99]) (k n : Int) (f : Nat) (s : ByteArray) (so : Option Addr) (m cap : Nat) (w : World) :
    Calls Tryd.prog 54 #[.string how, .agg #[.int .i64 k, .int .i64 n, .float .f64 f, .string s, .slice so m cap]] w fun e w' => AnyPost w (whV 0 k n f (numV k n f s m)) e w' := by
  have b1 : (how.toList == [116, 114, 117, 110, 99]) = true := by rw [hb]; decide
  have b2 : (how.toList == [114, 111, 117, 110, 100]) = false := by rw [hb]; decide
  have b3 : (how.toList == [102, 108, 111, 111, 114]) = false := by rw [hb]; decide
  have b4 : (how.toList == [99, 101, 105, 108]) = false := by rw [hb]; decide
  clear hb
  obtain ⟨w2, hw, hO⟩ := one_start w k n f s so m cap
  have HW := Lib.hid hw
  have HO := Lib.hid hO
  have HC := Lib.hid (fun w => rright_any k n f s so m cap w)
  obtain ⟨r, hr⟩ : ∃ r, numV k n f s m = r := ⟨_, rfl⟩
  obtain ⟨c0, c1, c2, c3, c4⟩ := hO.a.cells
  rw [hr] at HC
  have HR := Lib.hid hr
  obtain ⟨V, hV⟩ : ∃ V, whV 0 k n f r = V := ⟨_, rfl⟩
  rw [hr, hV]
  clear hw hO hr
  cases r
  · have HV := Lib.hid (hV.symm.trans (show whV 0 k n f false = nV 0 0 0 13 from rfl))
    clear hV
    go_enter Tryd.func54, Tryd.ntmps54
    go_upto_region 1 with (fail)
    rw [HW.out]
    go_wp2_with (first
      | (go_at_call 42
         (with_reducible refine (HC.out _).mono ?_)
         rintro e w3 ⟨rfl, hE3⟩
         have HO3 := Lib.hid (HO.out.next hE3)
         obtain ⟨d0, d1, d2, d3, d4⟩ := HO3.out.a.cells
         obtain ⟨hz, hY⟩ := HO3.out.fill 0 0 0
         obtain ⟨⟨g0, g1, g2, g3, g4⟩, ⟨a0, a1, a2, a3, a4⟩, s0, s1, s2, s3, s4⟩ := hz
         unfold set5 at s0 s1 s2 s3 s4
         have HY := Lib.hid hY
         clear hY
         clear hE3 c0 c1 c2 c3 c4)
      | fail)
    all_goals exact bodyPost_ret (v := nV 0 0 0 13) (by simp [results, nV, Tryd.f54, go_sem, s0, s1, s2, s3, s4]) rfl ⟨0, 0, 0, none, 0, 13, rfl, HV.out, HY.out⟩
  · obtain ⟨rfl, rfl, ⟨rfl, rfl, u1, u2⟩ | ⟨rfl, rfl, u1⟩⟩ := numV_shape HR.out
    · have HV := Lib.hid (hV.symm.trans ((show whV 0 1 n 0 true = mkI n by unfold whV; rw [if_neg (by decide), if_pos (by decide)]).trans (mkI_in' ⟨u1, u2⟩)))
      clear hV u1 u2
      go_enter Tryd.func54, Tryd.ntmps54
      go_upto_region 1 with (fail)
      rw [HW.out]
      go_wp2_with (first
        | (go_at_call 42
           (with_reducible refine (HC.out _).mono ?_)
           rintro e w3 ⟨rfl, hE3⟩
           have HO3 := Lib.hid (HO.out.next hE3)
           obtain ⟨d0, d1, d2, d3, d4⟩ := HO3.out.a.cells
           have hz := HO3.out.z
           have g0 := hz.free 0
           have g1 := hz.free 1
           have g2 := hz.free 2
           have g3 := hz.free 3
           have g4 := hz.free 4
           obtain ⟨a0, a1, a2, a3, a4⟩ := hz.cells
           obtain ⟨s0, s1, s2, s3, s4⟩ := (hz.fill 1 n 0 ⟨#[]⟩ so 0 cap).cells
           have HY := Lib.hid (ext_set5 (B := w.heap.size + 1) HO3.out.ext (by omega) 1 n 0 ⟨#[]⟩ so 0 cap)
           clear hz
           clear hE3 c0 c1 c2 c3 c4)
        | fail)
      exact bodyPost_ret (v := nVs 1 n 0 so cap 0) (by simp [results, nVs, Tryd.f54, go_sem, s0, s1, s2, s3, s4]) rfl ⟨1, n, 0, so, cap, 0, rfl, HV.out, HY.out⟩
    · have hwh : whV 0 2 0 f true = mkI (wholeW 0 f) := by unfold whV; rw [if_neg (by decide), if_neg (by decide)]
      have hfin := finF_fin.1 u1
      have hwb := whole_big 0 f
      have ho1 := order_tests' hfin val60.1
      have ho2 := order_tests' hfin valm60.1
      rw [val60.2] at ho1
      rw [valm60.2] at ho2
      by_cases h1 : 1152921504606846976 * (unit : Int) ≤ fval f
      · have HV := Lib.hid (hV.symm.trans (hwh.trans (show mkI (wholeW 0 f) = nV 0 0 0 12 by unfold mkI; rw [if_neg (by have := hwb.1 h1; omega)])))
        have o1 : (FloatKind.f64.format.order f 4877398396442247168 == some .gt || FloatKind.f64.format.order f 4877398396442247168 == some .eq) = true := by
          rw [ho1, if_neg (by omega)]
          split <;> rfl
        clear hV hwh hwb ho1 ho2 h1 hfin u1
        go_enter Tryd.func54, Tryd.ntmps54
        go_upto_region 1 with (fail)
        rw [HW.out]
        go_wp2_with (first
          | (go_at_call 42
             (with_reducible refine (HC.out _).mono ?_)
             rintro e w3 ⟨rfl, hE3⟩
             have HO3 := Lib.hid (HO.out.next hE3)
             obtain ⟨d0, d1, d2, d3, d4⟩ := HO3.out.a.cells
             obtain ⟨hz, hY⟩ := HO3.out.fill 0 0 0
             obtain ⟨⟨g0, g1, g2, g3, g4⟩, ⟨a0, a1, a2, a3, a4⟩, s0, s1, s2, s3, s4⟩ := hz
             unfold set5 at s0 s1 s2 s3 s4
             have HY := Lib.hid hY
             clear hY
             clear hE3 c0 c1 c2 c3 c4)
          | fail)
        all_goals exact bodyPost_ret (v := nV 0 0 0 12) (by simp [results, nV, Tryd.f54, go_sem, s0, s1, s2, s3, s4]) rfl ⟨0, 0, 0, none, 0, 12, rfl, HV.out, HY.out⟩
      · have o1 : FloatKind.f64.format.order f 4877398396442247168 = some .lt := by rw [ho1, if_pos (by omega)]
        by_cases h2 : fval f ≤ -1152921504606846976 * (unit : Int)
        · have HV := Lib.hid (hV.symm.trans (hwh.trans (show mkI (wholeW 0 f) = nV 0 0 0 12 by unfold mkI; rw [if_neg (by have := hwb.2 h2; omega)])))
          have o2 : (FloatKind.f64.format.order f 14100770433297022976 == some .lt || FloatKind.f64.format.order f 14100770433297022976 == some .eq) = true := by
            rw [ho2]
            by_cases h : fval f = -1152921504606846976 * (unit : Int)
            · rw [if_neg (by omega), if_neg (by omega)]; rfl
            · rw [if_pos (by omega)]; rfl
          clear hV hwh hwb ho1 ho2 h1 h2 hfin u1
          go_enter Tryd.func54, Tryd.ntmps54
          go_upto_region 1 with (fail)
          rw [HW.out]
          go_wp2_with (first
            | (go_at_call 42
               (with_reducible refine (HC.out _).mono ?_)
               rintro e w3 ⟨rfl, hE3⟩
               have HO3 := Lib.hid (HO.out.next hE3)
               obtain ⟨d0, d1, d2, d3, d4⟩ := HO3.out.a.cells
               obtain ⟨hz, hY⟩ := HO3.out.fill 0 0 0
               obtain ⟨⟨g0, g1, g2, g3, g4⟩, ⟨a0, a1, a2, a3, a4⟩, s0, s1, s2, s3, s4⟩ := hz
               unfold set5 at s0 s1 s2 s3 s4
               have HY := Lib.hid hY
               clear hY
               clear hE3 c0 c1 c2 c3 c4)
            | fail)
          all_goals exact bodyPost_ret (v := nV 0 0 0 12) (by simp [results, nV, Tryd.f54, go_sem, s0, s1, s2, s3, s4]) rfl ⟨0, 0, 0, none, 0, 12, rfl, HV.out, HY.out⟩
        · have o2 : (FloatKind.f64.format.order f 14100770433297022976 == some .lt || FloatKind.f64.format.order f 14100770433297022976 == some .eq) = false := by
            rw [ho2, if_neg (by omega), if_pos (by omega)]
            rfl
          have hr64 : -1152921504606846976 ≤ ftrunc f ∧ ftrunc f ≤ 1152921504606846976 := by
            have a := (trunc_lt (b := f) (n := 1152921504606846976)).2
            have b := (trunc_lt (b := f) (n := -1152921504606846976)).1
            constructor
            · by_cases c : ftrunc f < -1152921504606846976
              · have := b c; omega
              · omega
            · by_cases c : 1152921504606846976 < ftrunc f
              · have := a c; omega
              · omega
          have hcv := run_whole u1 (by omega)
          obtain ⟨nf, nv⟩ := near_trunc hfin
          obtain ⟨p, hp, pf, p64, pv⟩ := rest_val hfin nf nv
          have hS : ∀ w, (binOp .sub 24 (.float .f64 f) (.float .f64 (floatOfInt .f64 (ftrunc f)))).run Tryd.prog w = .ok (.float .f64 p) w := by
            intro w
            unfold floatOfInt
            rw [nearF_eq (ftrunc f)]
            exact run_float_arith (P := Tryd.prog) w .sub 24 .f64 f (nearF (ftrunc f)) p hp
          have pr : fval p = rest f := pv
          have q1 := ord_half pf
          have q2 := ord_mhalf pf
          have q3 := order_tests' pf val0.1
          rw [pr] at q1 q2 q3
          rw [val0.2] at q3
          have hnear := ways_near 0 f
          have hwy := And.intro (way_down f) (And.intro (way_up f) (way_round f))
          have hup := unitI_pos
          have e1 : IntKind.i64.wrap (ftrunc f + 1) = ftrunc f + 1 := IntWalk.i64_in _ (by omega)
          have e2 : IntKind.i64.wrap (ftrunc f - 1) = ftrunc f - 1 := IntWalk.i64_in _ (by omega)
          clear ho1 ho2 h1 h2 nf nv hp pf p64 pv pr hnear hr64 hwb
          have hval : wholeW 0 f = ftrunc f := rfl
          obtain ⟨rk, rn, rf, re, hmk⟩ := nV_form (.inl (mkI_form (ftrunc f)))
          have HV := Lib.hid (show V = nV rk rn rf re by rw [← hV, hwh, hval, hmk])
          have hXI := fun w => rint_any (ftrunc f) w
          rw [hmk] at hXI
          clear hval hmk hV hwh hfin u1 hwy
          generalize rest f = R at *
          generalize ftrunc f = T at *
          have HXI := Lib.hid hXI
          clear hXI hup q1 q2 q3
          go_enter Tryd.func54, Tryd.ntmps54
          go_upto_region 1 with (fail)
          rw [HW.out]
          go_wp2_with (first
            | (go_at_call 42
               (with_reducible refine (HC.out _).mono ?_)
               rintro e w3 ⟨rfl, hE3⟩
               have HO3 := Lib.hid (HO.out.next hE3)
               obtain ⟨d0, d1, d2, d3, d4⟩ := HO3.out.a.cells
               clear hE3 c0 c1 c2 c3 c4)
            | (go_at_call 19
               (with_reducible refine (HXI.out _).mono ?_)
               rintro e w4 ⟨rfl, hE4⟩
               unfold nV
               obtain ⟨hz, hY⟩ := (HO3.out.next hE4).fill rk rn rf
               obtain ⟨⟨g0, g1, g2, g3, g4⟩, ⟨a0, a1, a2, a3, a4⟩, s0, s1, s2, s3, s4⟩ := hz
               unfold set5 at s0 s1 s2 s3 s4
               have HY := Lib.hid hY
               clear hY hE4)
            | fail)
          all_goals exact bodyPost_ret (v := nV rk rn rf re) (by simp [results, nV, Tryd.f54, go_sem, s0, s1, s2, s3, s4]) rfl ⟨rk, rn, rf, none, 0, re, rfl, HV.out, HY.out⟩

set_option maxRecDepth 100000 in
set_option maxHeartbeats 8000000 in
theorem rwhole_1 (how : ByteArray) (hb : how.toList = [114, 111, 117, 110, 100]) (k n : Int) (f : Nat) (s : ByteArray) (so : Option Addr) (m cap : Nat) (w : World) :
    Calls Tryd.prog 54 #[.string how, .agg #[.int .i64 k, .int .i64 n, .float .f64 f, .string s, .slice so m cap]] w fun e w' => AnyPost w (whV 1 k n f (numV k n f s m)) e w' := by
  have b1 : (how.toList == [116, 114, 117, 110, 99]) = false := by rw [hb]; decide
  have b2 : (how.toList == [114, 111, 117, 110, 100]) = true := by rw [hb]; decide
  have b3 : (how.toList == [102, 108, 111, 111, 114]) = false := by rw [hb]; decide
  have b4 : (how.toList == [99, 101, 105, 108]) = false := by rw [hb]; decide
  clear hb
  obtain ⟨w2, hw, hO⟩ := one_start w k n f s so m cap
  have HW := Lib.hid hw
  have HO := Lib.hid hO
  have HC := Lib.hid (fun w => rright_any k n f s so m cap w)
  obtain ⟨r, hr⟩ : ∃ r, numV k n f s m = r := ⟨_, rfl⟩
  obtain ⟨c0, c1, c2, c3, c4⟩ := hO.a.cells
  rw [hr] at HC
  have HR := Lib.hid hr
  obtain ⟨V, hV⟩ : ∃ V, whV 1 k n f r = V := ⟨_, rfl⟩
  rw [hr, hV]
  clear hw hO hr
  cases r
  · have HV := Lib.hid (hV.symm.trans (show whV 1 k n f false = nV 0 0 0 13 from rfl))
    clear hV
    go_enter Tryd.func54, Tryd.ntmps54
    go_upto_region 1 with (fail)
    rw [HW.out]
    go_wp2_with (first
      | (go_at_call 42
         (with_reducible refine (HC.out _).mono ?_)
         rintro e w3 ⟨rfl, hE3⟩
         have HO3 := Lib.hid (HO.out.next hE3)
         obtain ⟨d0, d1, d2, d3, d4⟩ := HO3.out.a.cells
         obtain ⟨hz, hY⟩ := HO3.out.fill 0 0 0
         obtain ⟨⟨g0, g1, g2, g3, g4⟩, ⟨a0, a1, a2, a3, a4⟩, s0, s1, s2, s3, s4⟩ := hz
         unfold set5 at s0 s1 s2 s3 s4
         have HY := Lib.hid hY
         clear hY
         clear hE3 c0 c1 c2 c3 c4)
      | fail)
    all_goals exact bodyPost_ret (v := nV 0 0 0 13) (by simp [results, nV, Tryd.f54, go_sem, s0, s1, s2, s3, s4]) rfl ⟨0, 0, 0, none, 0, 13, rfl, HV.out, HY.out⟩
  · obtain ⟨rfl, rfl, ⟨rfl, rfl, u1, u2⟩ | ⟨rfl, rfl, u1⟩⟩ := numV_shape HR.out
    · have HV := Lib.hid (hV.symm.trans ((show whV 1 1 n 0 true = mkI n by unfold whV; rw [if_neg (by decide), if_pos (by decide)]).trans (mkI_in' ⟨u1, u2⟩)))
      clear hV u1 u2
      go_enter Tryd.func54, Tryd.ntmps54
      go_upto_region 1 with (fail)
      rw [HW.out]
      go_wp2_with (first
        | (go_at_call 42
           (with_reducible refine (HC.out _).mono ?_)
           rintro e w3 ⟨rfl, hE3⟩
           have HO3 := Lib.hid (HO.out.next hE3)
           obtain ⟨d0, d1, d2, d3, d4⟩ := HO3.out.a.cells
           have hz := HO3.out.z
           have g0 := hz.free 0
           have g1 := hz.free 1
           have g2 := hz.free 2
           have g3 := hz.free 3
           have g4 := hz.free 4
           obtain ⟨a0, a1, a2, a3, a4⟩ := hz.cells
           obtain ⟨s0, s1, s2, s3, s4⟩ := (hz.fill 1 n 0 ⟨#[]⟩ so 0 cap).cells
           have HY := Lib.hid (ext_set5 (B := w.heap.size + 1) HO3.out.ext (by omega) 1 n 0 ⟨#[]⟩ so 0 cap)
           clear hz
           clear hE3 c0 c1 c2 c3 c4)
        | fail)
      exact bodyPost_ret (v := nVs 1 n 0 so cap 0) (by simp [results, nVs, Tryd.f54, go_sem, s0, s1, s2, s3, s4]) rfl ⟨1, n, 0, so, cap, 0, rfl, HV.out, HY.out⟩
    · have hwh : whV 1 2 0 f true = mkI (wholeW 1 f) := by unfold whV; rw [if_neg (by decide), if_neg (by decide)]
      have hfin := finF_fin.1 u1
      have hwb := whole_big 1 f
      have ho1 := order_tests' hfin val60.1
      have ho2 := order_tests' hfin valm60.1
      rw [val60.2] at ho1
      rw [valm60.2] at ho2
      by_cases h1 : 1152921504606846976 * (unit : Int) ≤ fval f
      · have HV := Lib.hid (hV.symm.trans (hwh.trans (show mkI (wholeW 1 f) = nV 0 0 0 12 by unfold mkI; rw [if_neg (by have := hwb.1 h1; omega)])))
        have o1 : (FloatKind.f64.format.order f 4877398396442247168 == some .gt || FloatKind.f64.format.order f 4877398396442247168 == some .eq) = true := by
          rw [ho1, if_neg (by omega)]
          split <;> rfl
        clear hV hwh hwb ho1 ho2 h1 hfin u1
        go_enter Tryd.func54, Tryd.ntmps54
        go_upto_region 1 with (fail)
        rw [HW.out]
        go_wp2_with (first
          | (go_at_call 42
             (with_reducible refine (HC.out _).mono ?_)
             rintro e w3 ⟨rfl, hE3⟩
             have HO3 := Lib.hid (HO.out.next hE3)
             obtain ⟨d0, d1, d2, d3, d4⟩ := HO3.out.a.cells
             obtain ⟨hz, hY⟩ := HO3.out.fill 0 0 0
             obtain ⟨⟨g0, g1, g2, g3, g4⟩, ⟨a0, a1, a2, a3, a4⟩, s0, s1, s2, s3, s4⟩ := hz
             unfold set5 at s0 s1 s2 s3 s4
             have HY := Lib.hid hY
             clear hY
             clear hE3 c0 c1 c2 c3 c4)
          | fail)
        all_goals exact bodyPost_ret (v := nV 0 0 0 12) (by simp [results, nV, Tryd.f54, go_sem, s0, s1, s2, s3, s4]) rfl ⟨0, 0, 0, none, 0, 12, rfl, HV.out, HY.out⟩
      · have o1 : FloatKind.f64.format.order f 4877398396442247168 = some .lt := by rw [ho1, if_pos (by omega)]
        by_cases h2 : fval f ≤ -1152921504606846976 * (unit : Int)
        · have HV := Lib.hid (hV.symm.trans (hwh.trans (show mkI (wholeW 1 f) = nV 0 0 0 12 by unfold mkI; rw [if_neg (by have := hwb.2 h2; omega)])))
          have o2 : (FloatKind.f64.format.order f 14100770433297022976 == some .lt || FloatKind.f64.format.order f 14100770433297022976 == some .eq) = true := by
            rw [ho2]
            by_cases h : fval f = -1152921504606846976 * (unit : Int)
            · rw [if_neg (by omega), if_neg (by omega)]; rfl
            · rw [if_pos (by omega)]; rfl
          clear hV hwh hwb ho1 ho2 h1 h2 hfin u1
          go_enter Tryd.func54, Tryd.ntmps54
          go_upto_region 1 with (fail)
          rw [HW.out]
          go_wp2_with (first
            | (go_at_call 42
               (with_reducible refine (HC.out _).mono ?_)
               rintro e w3 ⟨rfl, hE3⟩
               have HO3 := Lib.hid (HO.out.next hE3)
               obtain ⟨d0, d1, d2, d3, d4⟩ := HO3.out.a.cells
               obtain ⟨hz, hY⟩ := HO3.out.fill 0 0 0
               obtain ⟨⟨g0, g1, g2, g3, g4⟩, ⟨a0, a1, a2, a3, a4⟩, s0, s1, s2, s3, s4⟩ := hz
               unfold set5 at s0 s1 s2 s3 s4
               have HY := Lib.hid hY
               clear hY
               clear hE3 c0 c1 c2 c3 c4)
            | fail)
          all_goals exact bodyPost_ret (v := nV 0 0 0 12) (by simp [results, nV, Tryd.f54, go_sem, s0, s1, s2, s3, s4]) rfl ⟨0, 0, 0, none, 0, 12, rfl, HV.out, HY.out⟩
        · have o2 : (FloatKind.f64.format.order f 14100770433297022976 == some .lt || FloatKind.f64.format.order f 14100770433297022976 == some .eq) = false := by
            rw [ho2, if_neg (by omega), if_pos (by omega)]
            rfl
          have hr64 : -1152921504606846976 ≤ ftrunc f ∧ ftrunc f ≤ 1152921504606846976 := by
            have a := (trunc_lt (b := f) (n := 1152921504606846976)).2
            have b := (trunc_lt (b := f) (n := -1152921504606846976)).1
            constructor
            · by_cases c : ftrunc f < -1152921504606846976
              · have := b c; omega
              · omega
            · by_cases c : 1152921504606846976 < ftrunc f
              · have := a c; omega
              · omega
          have hcv := run_whole u1 (by omega)
          obtain ⟨nf, nv⟩ := near_trunc hfin
          obtain ⟨p, hp, pf, p64, pv⟩ := rest_val hfin nf nv
          have hS : ∀ w, (binOp .sub 24 (.float .f64 f) (.float .f64 (floatOfInt .f64 (ftrunc f)))).run Tryd.prog w = .ok (.float .f64 p) w := by
            intro w
            unfold floatOfInt
            rw [nearF_eq (ftrunc f)]
            exact run_float_arith (P := Tryd.prog) w .sub 24 .f64 f (nearF (ftrunc f)) p hp
          have pr : fval p = rest f := pv
          have q1 := ord_half pf
          have q2 := ord_mhalf pf
          have q3 := order_tests' pf val0.1
          rw [pr] at q1 q2 q3
          rw [val0.2] at q3
          have hnear := ways_near 1 f
          have hwy := And.intro (way_down f) (And.intro (way_up f) (way_round f))
          have hup := unitI_pos
          have e1 : IntKind.i64.wrap (ftrunc f + 1) = ftrunc f + 1 := IntWalk.i64_in _ (by omega)
          have e2 : IntKind.i64.wrap (ftrunc f - 1) = ftrunc f - 1 := IntWalk.i64_in _ (by omega)
          clear ho1 ho2 h1 h2 nf nv hp pf p64 pv pr hnear hr64 hwb
          by_cases a : (unit : Int) ≤ 2 * rest f
          · have o3 : (FloatKind.f64.format.order p 4602678819172646912 == some .gt || FloatKind.f64.format.order p 4602678819172646912 == some .eq) = true := by
              rw [q1, if_neg (by omega)]
              split <;> rfl
            have o4 : (FloatKind.f64.format.order p 13826050856027422720 == some .lt || FloatKind.f64.format.order p 13826050856027422720 == some .eq) = false := by
              rw [q2, if_neg (by omega), if_pos (by omega)]
              rfl
            have hval : wholeW 1 f = ftrunc f + 1 := by rw [show wholeW 1 f = roundI f from rfl, hwy.2.2, if_pos a, if_neg (by omega)]; omega
            obtain ⟨rk, rn, rf, re, hmk⟩ := nV_form (.inl (mkI_form (ftrunc f + 1)))
            have HV := Lib.hid (show V = nV rk rn rf re by rw [← hV, hwh, hval, hmk])
            have hXI := fun w => rint_any (ftrunc f + 1) w
            rw [hmk] at hXI
            clear hval hmk hV hwh hfin u1 hwy
            generalize rest f = R at *
            generalize ftrunc f = T at *
            have HXI := Lib.hid hXI
            clear hXI hup q1 q2 q3 a
            go_enter Tryd.func54, Tryd.ntmps54
            go_upto_region 1 with (fail)
            rw [HW.out]
            go_wp2_with (first
              | (go_at_call 42
                 (with_reducible refine (HC.out _).mono ?_)
                 rintro e w3 ⟨rfl, hE3⟩
                 have HO3 := Lib.hid (HO.out.next hE3)
                 obtain ⟨d0, d1, d2, d3, d4⟩ := HO3.out.a.cells
                 clear hE3 c0 c1 c2 c3 c4)
              | (go_at_call 19
                 (with_reducible refine (HXI.out _).mono ?_)
                 rintro e w4 ⟨rfl, hE4⟩
                 unfold nV
                 obtain ⟨hz, hY⟩ := (HO3.out.next hE4).fill rk rn rf
                 obtain ⟨⟨g0, g1, g2, g3, g4⟩, ⟨a0, a1, a2, a3, a4⟩, s0, s1, s2, s3, s4⟩ := hz
                 unfold set5 at s0 s1 s2 s3 s4
                 have HY := Lib.hid hY
                 clear hY hE4)
              | fail)
            all_goals exact bodyPost_ret (v := nV rk rn rf re) (by simp [results, nV, Tryd.f54, go_sem, s0, s1, s2, s3, s4]) rfl ⟨rk, rn, rf, none, 0, re, rfl, HV.out, HY.out⟩
          · have o3 : (FloatKind.f64.format.order p 4602678819172646912 == some .gt || FloatKind.f64.format.order p 4602678819172646912 == some .eq) = false := by
              rw [q1, if_pos (by omega)]
              rfl
            by_cases b : 2 * rest f ≤ -(unit : Int)
            · have o4 : (FloatKind.f64.format.order p 13826050856027422720 == some .lt || FloatKind.f64.format.order p 13826050856027422720 == some .eq) = true := by
                rw [q2]
                by_cases c : 2 * rest f < -(unit : Int)
                · rw [if_pos c]; rfl
                · rw [if_neg c, if_neg (by omega)]; rfl
              have hval : wholeW 1 f = ftrunc f - 1 := by rw [show wholeW 1 f = roundI f from rfl, hwy.2.2, if_neg a, if_pos b]; omega
              obtain ⟨rk, rn, rf, re, hmk⟩ := nV_form (.inl (mkI_form (ftrunc f - 1)))
              have HV := Lib.hid (show V = nV rk rn rf re by rw [← hV, hwh, hval, hmk])
              have hXI := fun w => rint_any (ftrunc f - 1) w
              rw [hmk] at hXI
              clear hval hmk hV hwh hfin u1 hwy
              generalize rest f = R at *
              generalize ftrunc f = T at *
              have HXI := Lib.hid hXI
              clear hXI hup q1 q2 q3 a b
              go_enter Tryd.func54, Tryd.ntmps54
              go_upto_region 1 with (fail)
              rw [HW.out]
              go_wp2_with (first
                | (go_at_call 42
                   (with_reducible refine (HC.out _).mono ?_)
                   rintro e w3 ⟨rfl, hE3⟩
                   have HO3 := Lib.hid (HO.out.next hE3)
                   obtain ⟨d0, d1, d2, d3, d4⟩ := HO3.out.a.cells
                   clear hE3 c0 c1 c2 c3 c4)
                | (go_at_call 19
                   (with_reducible refine (HXI.out _).mono ?_)
                   rintro e w4 ⟨rfl, hE4⟩
                   unfold nV
                   obtain ⟨hz, hY⟩ := (HO3.out.next hE4).fill rk rn rf
                   obtain ⟨⟨g0, g1, g2, g3, g4⟩, ⟨a0, a1, a2, a3, a4⟩, s0, s1, s2, s3, s4⟩ := hz
                   unfold set5 at s0 s1 s2 s3 s4
                   have HY := Lib.hid hY
                   clear hY hE4)
                | fail)
              all_goals exact bodyPost_ret (v := nV rk rn rf re) (by simp [results, nV, Tryd.f54, go_sem, s0, s1, s2, s3, s4]) rfl ⟨rk, rn, rf, none, 0, re, rfl, HV.out, HY.out⟩
            · have o4 : (FloatKind.f64.format.order p 13826050856027422720 == some .lt || FloatKind.f64.format.order p 13826050856027422720 == some .eq) = false := by
                rw [q2, if_neg (by omega), if_pos (by omega)]
                rfl
              have hval : wholeW 1 f = ftrunc f := by rw [show wholeW 1 f = roundI f from rfl, hwy.2.2, if_neg a, if_neg b]; omega
              obtain ⟨rk, rn, rf, re, hmk⟩ := nV_form (.inl (mkI_form (ftrunc f)))
              have HV := Lib.hid (show V = nV rk rn rf re by rw [← hV, hwh, hval, hmk])
              have hXI := fun w => rint_any (ftrunc f) w
              rw [hmk] at hXI
              clear hval hmk hV hwh hfin u1 hwy
              generalize rest f = R at *
              generalize ftrunc f = T at *
              have HXI := Lib.hid hXI
              clear hXI hup q1 q2 q3 a b
              go_enter Tryd.func54, Tryd.ntmps54
              go_upto_region 1 with (fail)
              rw [HW.out]
              go_wp2_with (first
                | (go_at_call 42
                   (with_reducible refine (HC.out _).mono ?_)
                   rintro e w3 ⟨rfl, hE3⟩
                   have HO3 := Lib.hid (HO.out.next hE3)
                   obtain ⟨d0, d1, d2, d3, d4⟩ := HO3.out.a.cells
                   clear hE3 c0 c1 c2 c3 c4)
                | (go_at_call 19
                   (with_reducible refine (HXI.out _).mono ?_)
                   rintro e w4 ⟨rfl, hE4⟩
                   unfold nV
                   obtain ⟨hz, hY⟩ := (HO3.out.next hE4).fill rk rn rf
                   obtain ⟨⟨g0, g1, g2, g3, g4⟩, ⟨a0, a1, a2, a3, a4⟩, s0, s1, s2, s3, s4⟩ := hz
                   unfold set5 at s0 s1 s2 s3 s4
                   have HY := Lib.hid hY
                   clear hY hE4)
                | fail)
              all_goals exact bodyPost_ret (v := nV rk rn rf re) (by simp [results, nV, Tryd.f54, go_sem, s0, s1, s2, s3, s4]) rfl ⟨rk, rn, rf, none, 0, re, rfl, HV.out, HY.out⟩

set_option maxRecDepth 100000 in
set_option maxHeartbeats 8000000 in
theorem rwhole_2 (how : ByteArray) (hb : how.toList = [102, 108, 111, 111, 114]) (k n : Int) (f : Nat) (s : ByteArray) (so : Option Addr) (m cap : Nat) (w : World) :
    Calls Tryd.prog 54 #[.string how, .agg #[.int .i64 k, .int .i64 n, .float .f64 f, .string s, .slice so m cap]] w fun e w' => AnyPost w (whV 2 k n f (numV k n f s m)) e w' := by
  have b1 : (how.toList == [116, 114, 117, 110, 99]) = false := by rw [hb]; decide
  have b2 : (how.toList == [114, 111, 117, 110, 100]) = false := by rw [hb]; decide
  have b3 : (how.toList == [102, 108, 111, 111, 114]) = true := by rw [hb]; decide
  have b4 : (how.toList == [99, 101, 105, 108]) = false := by rw [hb]; decide
  clear hb
  obtain ⟨w2, hw, hO⟩ := one_start w k n f s so m cap
  have HW := Lib.hid hw
  have HO := Lib.hid hO
  have HC := Lib.hid (fun w => rright_any k n f s so m cap w)
  obtain ⟨r, hr⟩ : ∃ r, numV k n f s m = r := ⟨_, rfl⟩
  obtain ⟨c0, c1, c2, c3, c4⟩ := hO.a.cells
  rw [hr] at HC
  have HR := Lib.hid hr
  obtain ⟨V, hV⟩ : ∃ V, whV 2 k n f r = V := ⟨_, rfl⟩
  rw [hr, hV]
  clear hw hO hr
  cases r
  · have HV := Lib.hid (hV.symm.trans (show whV 2 k n f false = nV 0 0 0 13 from rfl))
    clear hV
    go_enter Tryd.func54, Tryd.ntmps54
    go_upto_region 1 with (fail)
    rw [HW.out]
    go_wp2_with (first
      | (go_at_call 42
         (with_reducible refine (HC.out _).mono ?_)
         rintro e w3 ⟨rfl, hE3⟩
         have HO3 := Lib.hid (HO.out.next hE3)
         obtain ⟨d0, d1, d2, d3, d4⟩ := HO3.out.a.cells
         obtain ⟨hz, hY⟩ := HO3.out.fill 0 0 0
         obtain ⟨⟨g0, g1, g2, g3, g4⟩, ⟨a0, a1, a2, a3, a4⟩, s0, s1, s2, s3, s4⟩ := hz
         unfold set5 at s0 s1 s2 s3 s4
         have HY := Lib.hid hY
         clear hY
         clear hE3 c0 c1 c2 c3 c4)
      | fail)
    all_goals exact bodyPost_ret (v := nV 0 0 0 13) (by simp [results, nV, Tryd.f54, go_sem, s0, s1, s2, s3, s4]) rfl ⟨0, 0, 0, none, 0, 13, rfl, HV.out, HY.out⟩
  · obtain ⟨rfl, rfl, ⟨rfl, rfl, u1, u2⟩ | ⟨rfl, rfl, u1⟩⟩ := numV_shape HR.out
    · have HV := Lib.hid (hV.symm.trans ((show whV 2 1 n 0 true = mkI n by unfold whV; rw [if_neg (by decide), if_pos (by decide)]).trans (mkI_in' ⟨u1, u2⟩)))
      clear hV u1 u2
      go_enter Tryd.func54, Tryd.ntmps54
      go_upto_region 1 with (fail)
      rw [HW.out]
      go_wp2_with (first
        | (go_at_call 42
           (with_reducible refine (HC.out _).mono ?_)
           rintro e w3 ⟨rfl, hE3⟩
           have HO3 := Lib.hid (HO.out.next hE3)
           obtain ⟨d0, d1, d2, d3, d4⟩ := HO3.out.a.cells
           have hz := HO3.out.z
           have g0 := hz.free 0
           have g1 := hz.free 1
           have g2 := hz.free 2
           have g3 := hz.free 3
           have g4 := hz.free 4
           obtain ⟨a0, a1, a2, a3, a4⟩ := hz.cells
           obtain ⟨s0, s1, s2, s3, s4⟩ := (hz.fill 1 n 0 ⟨#[]⟩ so 0 cap).cells
           have HY := Lib.hid (ext_set5 (B := w.heap.size + 1) HO3.out.ext (by omega) 1 n 0 ⟨#[]⟩ so 0 cap)
           clear hz
           clear hE3 c0 c1 c2 c3 c4)
        | fail)
      exact bodyPost_ret (v := nVs 1 n 0 so cap 0) (by simp [results, nVs, Tryd.f54, go_sem, s0, s1, s2, s3, s4]) rfl ⟨1, n, 0, so, cap, 0, rfl, HV.out, HY.out⟩
    · have hwh : whV 2 2 0 f true = mkI (wholeW 2 f) := by unfold whV; rw [if_neg (by decide), if_neg (by decide)]
      have hfin := finF_fin.1 u1
      have hwb := whole_big 2 f
      have ho1 := order_tests' hfin val60.1
      have ho2 := order_tests' hfin valm60.1
      rw [val60.2] at ho1
      rw [valm60.2] at ho2
      by_cases h1 : 1152921504606846976 * (unit : Int) ≤ fval f
      · have HV := Lib.hid (hV.symm.trans (hwh.trans (show mkI (wholeW 2 f) = nV 0 0 0 12 by unfold mkI; rw [if_neg (by have := hwb.1 h1; omega)])))
        have o1 : (FloatKind.f64.format.order f 4877398396442247168 == some .gt || FloatKind.f64.format.order f 4877398396442247168 == some .eq) = true := by
          rw [ho1, if_neg (by omega)]
          split <;> rfl
        clear hV hwh hwb ho1 ho2 h1 hfin u1
        go_enter Tryd.func54, Tryd.ntmps54
        go_upto_region 1 with (fail)
        rw [HW.out]
        go_wp2_with (first
          | (go_at_call 42
             (with_reducible refine (HC.out _).mono ?_)
             rintro e w3 ⟨rfl, hE3⟩
             have HO3 := Lib.hid (HO.out.next hE3)
             obtain ⟨d0, d1, d2, d3, d4⟩ := HO3.out.a.cells
             obtain ⟨hz, hY⟩ := HO3.out.fill 0 0 0
             obtain ⟨⟨g0, g1, g2, g3, g4⟩, ⟨a0, a1, a2, a3, a4⟩, s0, s1, s2, s3, s4⟩ := hz
             unfold set5 at s0 s1 s2 s3 s4
             have HY := Lib.hid hY
             clear hY
             clear hE3 c0 c1 c2 c3 c4)
          | fail)
        all_goals exact bodyPost_ret (v := nV 0 0 0 12) (by simp [results, nV, Tryd.f54, go_sem, s0, s1, s2, s3, s4]) rfl ⟨0, 0, 0, none, 0, 12, rfl, HV.out, HY.out⟩
      · have o1 : FloatKind.f64.format.order f 4877398396442247168 = some .lt := by rw [ho1, if_pos (by omega)]
        by_cases h2 : fval f ≤ -1152921504606846976 * (unit : Int)
        · have HV := Lib.hid (hV.symm.trans (hwh.trans (show mkI (wholeW 2 f) = nV 0 0 0 12 by unfold mkI; rw [if_neg (by have := hwb.2 h2; omega)])))
          have o2 : (FloatKind.f64.format.order f 14100770433297022976 == some .lt || FloatKind.f64.format.order f 14100770433297022976 == some .eq) = true := by
            rw [ho2]
            by_cases h : fval f = -1152921504606846976 * (unit : Int)
            · rw [if_neg (by omega), if_neg (by omega)]; rfl
            · rw [if_pos (by omega)]; rfl
          clear hV hwh hwb ho1 ho2 h1 h2 hfin u1
          go_enter Tryd.func54, Tryd.ntmps54
          go_upto_region 1 with (fail)
          rw [HW.out]
          go_wp2_with (first
            | (go_at_call 42
               (with_reducible refine (HC.out _).mono ?_)
               rintro e w3 ⟨rfl, hE3⟩
               have HO3 := Lib.hid (HO.out.next hE3)
               obtain ⟨d0, d1, d2, d3, d4⟩ := HO3.out.a.cells
               obtain ⟨hz, hY⟩ := HO3.out.fill 0 0 0
               obtain ⟨⟨g0, g1, g2, g3, g4⟩, ⟨a0, a1, a2, a3, a4⟩, s0, s1, s2, s3, s4⟩ := hz
               unfold set5 at s0 s1 s2 s3 s4
               have HY := Lib.hid hY
               clear hY
               clear hE3 c0 c1 c2 c3 c4)
            | fail)
          all_goals exact bodyPost_ret (v := nV 0 0 0 12) (by simp [results, nV, Tryd.f54, go_sem, s0, s1, s2, s3, s4]) rfl ⟨0, 0, 0, none, 0, 12, rfl, HV.out, HY.out⟩
        · have o2 : (FloatKind.f64.format.order f 14100770433297022976 == some .lt || FloatKind.f64.format.order f 14100770433297022976 == some .eq) = false := by
            rw [ho2, if_neg (by omega), if_pos (by omega)]
            rfl
          have hr64 : -1152921504606846976 ≤ ftrunc f ∧ ftrunc f ≤ 1152921504606846976 := by
            have a := (trunc_lt (b := f) (n := 1152921504606846976)).2
            have b := (trunc_lt (b := f) (n := -1152921504606846976)).1
            constructor
            · by_cases c : ftrunc f < -1152921504606846976
              · have := b c; omega
              · omega
            · by_cases c : 1152921504606846976 < ftrunc f
              · have := a c; omega
              · omega
          have hcv := run_whole u1 (by omega)
          obtain ⟨nf, nv⟩ := near_trunc hfin
          obtain ⟨p, hp, pf, p64, pv⟩ := rest_val hfin nf nv
          have hS : ∀ w, (binOp .sub 24 (.float .f64 f) (.float .f64 (floatOfInt .f64 (ftrunc f)))).run Tryd.prog w = .ok (.float .f64 p) w := by
            intro w
            unfold floatOfInt
            rw [nearF_eq (ftrunc f)]
            exact run_float_arith (P := Tryd.prog) w .sub 24 .f64 f (nearF (ftrunc f)) p hp
          have pr : fval p = rest f := pv
          have q1 := ord_half pf
          have q2 := ord_mhalf pf
          have q3 := order_tests' pf val0.1
          rw [pr] at q1 q2 q3
          rw [val0.2] at q3
          have hnear := ways_near 2 f
          have hwy := And.intro (way_down f) (And.intro (way_up f) (way_round f))
          have hup := unitI_pos
          have e1 : IntKind.i64.wrap (ftrunc f + 1) = ftrunc f + 1 := IntWalk.i64_in _ (by omega)
          have e2 : IntKind.i64.wrap (ftrunc f - 1) = ftrunc f - 1 := IntWalk.i64_in _ (by omega)
          clear ho1 ho2 h1 h2 nf nv hp pf p64 pv pr hnear hr64 hwb
          by_cases a : rest f < 0
          · have o3 : (FloatKind.f64.format.order p 0 == some .lt) = true := by rw [q3, if_pos a]; rfl
            have hval : wholeW 2 f = ftrunc f - 1 := by rw [show wholeW 2 f = wholeI .down f from rfl, hwy.1, if_pos a]
            obtain ⟨rk, rn, rf, re, hmk⟩ := nV_form (.inl (mkI_form (ftrunc f - 1)))
            have HV := Lib.hid (show V = nV rk rn rf re by rw [← hV, hwh, hval, hmk])
            have hXI := fun w => rint_any (ftrunc f - 1) w
            rw [hmk] at hXI
            clear hval hmk hV hwh hfin u1 hwy
            generalize rest f = R at *
            generalize ftrunc f = T at *
            have HXI := Lib.hid hXI
            clear hXI hup q1 q2 q3 a
            go_enter Tryd.func54, Tryd.ntmps54
            go_upto_region 1 with (fail)
            rw [HW.out]
            go_wp2_with (first
              | (go_at_call 42
                 (with_reducible refine (HC.out _).mono ?_)
                 rintro e w3 ⟨rfl, hE3⟩
                 have HO3 := Lib.hid (HO.out.next hE3)
                 obtain ⟨d0, d1, d2, d3, d4⟩ := HO3.out.a.cells
                 clear hE3 c0 c1 c2 c3 c4)
              | (go_at_call 19
                 (with_reducible refine (HXI.out _).mono ?_)
                 rintro e w4 ⟨rfl, hE4⟩
                 unfold nV
                 obtain ⟨hz, hY⟩ := (HO3.out.next hE4).fill rk rn rf
                 obtain ⟨⟨g0, g1, g2, g3, g4⟩, ⟨a0, a1, a2, a3, a4⟩, s0, s1, s2, s3, s4⟩ := hz
                 unfold set5 at s0 s1 s2 s3 s4
                 have HY := Lib.hid hY
                 clear hY hE4)
              | fail)
            all_goals exact bodyPost_ret (v := nV rk rn rf re) (by simp [results, nV, Tryd.f54, go_sem, s0, s1, s2, s3, s4]) rfl ⟨rk, rn, rf, none, 0, re, rfl, HV.out, HY.out⟩
          · have o3 : (FloatKind.f64.format.order p 0 == some .lt) = false := by
              rw [q3, if_neg a]
              split <;> rfl
            have hval : wholeW 2 f = ftrunc f := by rw [show wholeW 2 f = wholeI .down f from rfl, hwy.1, if_neg a]; omega
            obtain ⟨rk, rn, rf, re, hmk⟩ := nV_form (.inl (mkI_form (ftrunc f)))
            have HV := Lib.hid (show V = nV rk rn rf re by rw [← hV, hwh, hval, hmk])
            have hXI := fun w => rint_any (ftrunc f) w
            rw [hmk] at hXI
            clear hval hmk hV hwh hfin u1 hwy
            generalize rest f = R at *
            generalize ftrunc f = T at *
            have HXI := Lib.hid hXI
            clear hXI hup q1 q2 q3 a
            go_enter Tryd.func54, Tryd.ntmps54
            go_upto_region 1 with (fail)
            rw [HW.out]
            go_wp2_with (first
              | (go_at_call 42
                 (with_reducible refine (HC.out _).mono ?_)
                 rintro e w3 ⟨rfl, hE3⟩
                 have HO3 := Lib.hid (HO.out.next hE3)
                 obtain ⟨d0, d1, d2, d3, d4⟩ := HO3.out.a.cells
                 clear hE3 c0 c1 c2 c3 c4)
              | (go_at_call 19
                 (with_reducible refine (HXI.out _).mono ?_)
                 rintro e w4 ⟨rfl, hE4⟩
                 unfold nV
                 obtain ⟨hz, hY⟩ := (HO3.out.next hE4).fill rk rn rf
                 obtain ⟨⟨g0, g1, g2, g3, g4⟩, ⟨a0, a1, a2, a3, a4⟩, s0, s1, s2, s3, s4⟩ := hz
                 unfold set5 at s0 s1 s2 s3 s4
                 have HY := Lib.hid hY
                 clear hY hE4)
              | fail)
            all_goals exact bodyPost_ret (v := nV rk rn rf re) (by simp [results, nV, Tryd.f54, go_sem, s0, s1, s2, s3, s4]) rfl ⟨rk, rn, rf, none, 0, re, rfl, HV.out, HY.out⟩

set_option maxRecDepth 100000 in
set_option maxHeartbeats 8000000 in
theorem rwhole_3 (how : ByteArray) (hb : how.toList = [99, 101, 105, 108]) (k n : Int) (f : Nat) (s : ByteArray) (so : Option Addr) (m cap : Nat) (w : World) :
    Calls Tryd.prog 54 #[.string how, .agg #[.int .i64 k, .int .i64 n, .float .f64 f, .string s, .slice so m cap]] w fun e w' => AnyPost w (whV 3 k n f (numV k n f s m)) e w' := by
  have b1 : (how.toList == [116, 114, 117, 110, 99]) = false := by rw [hb]; decide
  have b2 : (how.toList == [114, 111, 117, 110, 100]) = false := by rw [hb]; decide
  have b3 : (how.toList == [102, 108, 111, 111, 114]) = false := by rw [hb]; decide
  have b4 : (how.toList == [99, 101, 105, 108]) = true := by rw [hb]; decide
  clear hb
  obtain ⟨w2, hw, hO⟩ := one_start w k n f s so m cap
  have HW := Lib.hid hw
  have HO := Lib.hid hO
  have HC := Lib.hid (fun w => rright_any k n f s so m cap w)
  obtain ⟨r, hr⟩ : ∃ r, numV k n f s m = r := ⟨_, rfl⟩
  obtain ⟨c0, c1, c2, c3, c4⟩ := hO.a.cells
  rw [hr] at HC
  have HR := Lib.hid hr
  obtain ⟨V, hV⟩ : ∃ V, whV 3 k n f r = V := ⟨_, rfl⟩
  rw [hr, hV]
  clear hw hO hr
  cases r
  · have HV := Lib.hid (hV.symm.trans (show whV 3 k n f false = nV 0 0 0 13 from rfl))
    clear hV
    go_enter Tryd.func54, Tryd.ntmps54
    go_upto_region 1 with (fail)
    rw [HW.out]
    go_wp2_with (first
      | (go_at_call 42
         (with_reducible refine (HC.out _).mono ?_)
         rintro e w3 ⟨rfl, hE3⟩
         have HO3 := Lib.hid (HO.out.next hE3)
         obtain ⟨d0, d1, d2, d3, d4⟩ := HO3.out.a.cells
         obtain ⟨hz, hY⟩ := HO3.out.fill 0 0 0
         obtain ⟨⟨g0, g1, g2, g3, g4⟩, ⟨a0, a1, a2, a3, a4⟩, s0, s1, s2, s3, s4⟩ := hz
         unfold set5 at s0 s1 s2 s3 s4
         have HY := Lib.hid hY
         clear hY
         clear hE3 c0 c1 c2 c3 c4)
      | fail)
    all_goals exact bodyPost_ret (v := nV 0 0 0 13) (by simp [results, nV, Tryd.f54, go_sem, s0, s1, s2, s3, s4]) rfl ⟨0, 0, 0, none, 0, 13, rfl, HV.out, HY.out⟩
  · obtain ⟨rfl, rfl, ⟨rfl, rfl, u1, u2⟩ | ⟨rfl, rfl, u1⟩⟩ := numV_shape HR.out
    · have HV := Lib.hid (hV.symm.trans ((show whV 3 1 n 0 true = mkI n by unfold whV; rw [if_neg (by decide), if_pos (by decide)]).trans (mkI_in' ⟨u1, u2⟩)))
      clear hV u1 u2
      go_enter Tryd.func54, Tryd.ntmps54
      go_upto_region 1 with (fail)
      rw [HW.out]
      go_wp2_with (first
        | (go_at_call 42
           (with_reducible refine (HC.out _).mono ?_)
           rintro e w3 ⟨rfl, hE3⟩
           have HO3 := Lib.hid (HO.out.next hE3)
           obtain ⟨d0, d1, d2, d3, d4⟩ := HO3.out.a.cells
           have hz := HO3.out.z
           have g0 := hz.free 0
           have g1 := hz.free 1
           have g2 := hz.free 2
           have g3 := hz.free 3
           have g4 := hz.free 4
           obtain ⟨a0, a1, a2, a3, a4⟩ := hz.cells
           obtain ⟨s0, s1, s2, s3, s4⟩ := (hz.fill 1 n 0 ⟨#[]⟩ so 0 cap).cells
           have HY := Lib.hid (ext_set5 (B := w.heap.size + 1) HO3.out.ext (by omega) 1 n 0 ⟨#[]⟩ so 0 cap)
           clear hz
           clear hE3 c0 c1 c2 c3 c4)
        | fail)
      exact bodyPost_ret (v := nVs 1 n 0 so cap 0) (by simp [results, nVs, Tryd.f54, go_sem, s0, s1, s2, s3, s4]) rfl ⟨1, n, 0, so, cap, 0, rfl, HV.out, HY.out⟩
    · have hwh : whV 3 2 0 f true = mkI (wholeW 3 f) := by unfold whV; rw [if_neg (by decide), if_neg (by decide)]
      have hfin := finF_fin.1 u1
      have hwb := whole_big 3 f
      have ho1 := order_tests' hfin val60.1
      have ho2 := order_tests' hfin valm60.1
      rw [val60.2] at ho1
      rw [valm60.2] at ho2
      by_cases h1 : 1152921504606846976 * (unit : Int) ≤ fval f
      · have HV := Lib.hid (hV.symm.trans (hwh.trans (show mkI (wholeW 3 f) = nV 0 0 0 12 by unfold mkI; rw [if_neg (by have := hwb.1 h1; omega)])))
        have o1 : (FloatKind.f64.format.order f 4877398396442247168 == some .gt || FloatKind.f64.format.order f 4877398396442247168 == some .eq) = true := by
          rw [ho1, if_neg (by omega)]
          split <;> rfl
        clear hV hwh hwb ho1 ho2 h1 hfin u1
        go_enter Tryd.func54, Tryd.ntmps54
        go_upto_region 1 with (fail)
        rw [HW.out]
        go_wp2_with (first
          | (go_at_call 42
             (with_reducible refine (HC.out _).mono ?_)
             rintro e w3 ⟨rfl, hE3⟩
             have HO3 := Lib.hid (HO.out.next hE3)
             obtain ⟨d0, d1, d2, d3, d4⟩ := HO3.out.a.cells
             obtain ⟨hz, hY⟩ := HO3.out.fill 0 0 0
             obtain ⟨⟨g0, g1, g2, g3, g4⟩, ⟨a0, a1, a2, a3, a4⟩, s0, s1, s2, s3, s4⟩ := hz
             unfold set5 at s0 s1 s2 s3 s4
             have HY := Lib.hid hY
             clear hY
             clear hE3 c0 c1 c2 c3 c4)
          | fail)
        all_goals exact bodyPost_ret (v := nV 0 0 0 12) (by simp [results, nV, Tryd.f54, go_sem, s0, s1, s2, s3, s4]) rfl ⟨0, 0, 0, none, 0, 12, rfl, HV.out, HY.out⟩
      · have o1 : FloatKind.f64.format.order f 4877398396442247168 = some .lt := by rw [ho1, if_pos (by omega)]
        by_cases h2 : fval f ≤ -1152921504606846976 * (unit : Int)
        · have HV := Lib.hid (hV.symm.trans (hwh.trans (show mkI (wholeW 3 f) = nV 0 0 0 12 by unfold mkI; rw [if_neg (by have := hwb.2 h2; omega)])))
          have o2 : (FloatKind.f64.format.order f 14100770433297022976 == some .lt || FloatKind.f64.format.order f 14100770433297022976 == some .eq) = true := by
            rw [ho2]
            by_cases h : fval f = -1152921504606846976 * (unit : Int)
            · rw [if_neg (by omega), if_neg (by omega)]; rfl
            · rw [if_pos (by omega)]; rfl
          clear hV hwh hwb ho1 ho2 h1 h2 hfin u1
          go_enter Tryd.func54, Tryd.ntmps54
          go_upto_region 1 with (fail)
          rw [HW.out]
          go_wp2_with (first
            | (go_at_call 42
               (with_reducible refine (HC.out _).mono ?_)
               rintro e w3 ⟨rfl, hE3⟩
               have HO3 := Lib.hid (HO.out.next hE3)
               obtain ⟨d0, d1, d2, d3, d4⟩ := HO3.out.a.cells
               obtain ⟨hz, hY⟩ := HO3.out.fill 0 0 0
               obtain ⟨⟨g0, g1, g2, g3, g4⟩, ⟨a0, a1, a2, a3, a4⟩, s0, s1, s2, s3, s4⟩ := hz
               unfold set5 at s0 s1 s2 s3 s4
               have HY := Lib.hid hY
               clear hY
               clear hE3 c0 c1 c2 c3 c4)
            | fail)
          all_goals exact bodyPost_ret (v := nV 0 0 0 12) (by simp [results, nV, Tryd.f54, go_sem, s0, s1, s2, s3, s4]) rfl ⟨0, 0, 0, none, 0, 12, rfl, HV.out, HY.out⟩
        · have o2 : (FloatKind.f64.format.order f 14100770433297022976 == some .lt || FloatKind.f64.format.order f 14100770433297022976 == some .eq) = false := by
            rw [ho2, if_neg (by omega), if_pos (by omega)]
            rfl
          have hr64 : -1152921504606846976 ≤ ftrunc f ∧ ftrunc f ≤ 1152921504606846976 := by
            have a := (trunc_lt (b := f) (n := 1152921504606846976)).2
            have b := (trunc_lt (b := f) (n := -1152921504606846976)).1
            constructor
            · by_cases c : ftrunc f < -1152921504606846976
              · have := b c; omega
              · omega
            · by_cases c : 1152921504606846976 < ftrunc f
              · have := a c; omega
              · omega
          have hcv := run_whole u1 (by omega)
          obtain ⟨nf, nv⟩ := near_trunc hfin
          obtain ⟨p, hp, pf, p64, pv⟩ := rest_val hfin nf nv
          have hS : ∀ w, (binOp .sub 24 (.float .f64 f) (.float .f64 (floatOfInt .f64 (ftrunc f)))).run Tryd.prog w = .ok (.float .f64 p) w := by
            intro w
            unfold floatOfInt
            rw [nearF_eq (ftrunc f)]
            exact run_float_arith (P := Tryd.prog) w .sub 24 .f64 f (nearF (ftrunc f)) p hp
          have pr : fval p = rest f := pv
          have q1 := ord_half pf
          have q2 := ord_mhalf pf
          have q3 := order_tests' pf val0.1
          rw [pr] at q1 q2 q3
          rw [val0.2] at q3
          have hnear := ways_near 3 f
          have hwy := And.intro (way_down f) (And.intro (way_up f) (way_round f))
          have hup := unitI_pos
          have e1 : IntKind.i64.wrap (ftrunc f + 1) = ftrunc f + 1 := IntWalk.i64_in _ (by omega)
          have e2 : IntKind.i64.wrap (ftrunc f - 1) = ftrunc f - 1 := IntWalk.i64_in _ (by omega)
          clear ho1 ho2 h1 h2 nf nv hp pf p64 pv pr hnear hr64 hwb
          by_cases a : 0 < rest f
          · have o3 : (FloatKind.f64.format.order p 0 == some .gt) = true := by rw [q3, if_neg (by omega), if_pos a]; rfl
            have hval : wholeW 3 f = ftrunc f + 1 := by rw [show wholeW 3 f = wholeI .up f from rfl, hwy.2.1, if_pos a]
            obtain ⟨rk, rn, rf, re, hmk⟩ := nV_form (.inl (mkI_form (ftrunc f + 1)))
            have HV := Lib.hid (show V = nV rk rn rf re by rw [← hV, hwh, hval, hmk])
            have hXI := fun w => rint_any (ftrunc f + 1) w
            rw [hmk] at hXI
            clear hval hmk hV hwh hfin u1 hwy
            generalize rest f = R at *
            generalize ftrunc f = T at *
            have HXI := Lib.hid hXI
            clear hXI hup q1 q2 q3 a
            go_enter Tryd.func54, Tryd.ntmps54
            go_upto_region 1 with (fail)
            rw [HW.out]
            go_wp2_with (first
              | (go_at_call 42
                 (with_reducible refine (HC.out _).mono ?_)
                 rintro e w3 ⟨rfl, hE3⟩
                 have HO3 := Lib.hid (HO.out.next hE3)
                 obtain ⟨d0, d1, d2, d3, d4⟩ := HO3.out.a.cells
                 clear hE3 c0 c1 c2 c3 c4)
              | (go_at_call 19
                 (with_reducible refine (HXI.out _).mono ?_)
                 rintro e w4 ⟨rfl, hE4⟩
                 unfold nV
                 obtain ⟨hz, hY⟩ := (HO3.out.next hE4).fill rk rn rf
                 obtain ⟨⟨g0, g1, g2, g3, g4⟩, ⟨a0, a1, a2, a3, a4⟩, s0, s1, s2, s3, s4⟩ := hz
                 unfold set5 at s0 s1 s2 s3 s4
                 have HY := Lib.hid hY
                 clear hY hE4)
              | fail)
            all_goals exact bodyPost_ret (v := nV rk rn rf re) (by simp [results, nV, Tryd.f54, go_sem, s0, s1, s2, s3, s4]) rfl ⟨rk, rn, rf, none, 0, re, rfl, HV.out, HY.out⟩
          · have o3 : (FloatKind.f64.format.order p 0 == some .gt) = false := by
              rw [q3, if_neg a]
              split <;> rfl
            have hval : wholeW 3 f = ftrunc f := by rw [show wholeW 3 f = wholeI .up f from rfl, hwy.2.1, if_neg a]; omega
            obtain ⟨rk, rn, rf, re, hmk⟩ := nV_form (.inl (mkI_form (ftrunc f)))
            have HV := Lib.hid (show V = nV rk rn rf re by rw [← hV, hwh, hval, hmk])
            have hXI := fun w => rint_any (ftrunc f) w
            rw [hmk] at hXI
            clear hval hmk hV hwh hfin u1 hwy
            generalize rest f = R at *
            generalize ftrunc f = T at *
            have HXI := Lib.hid hXI
            clear hXI hup q1 q2 q3 a
            go_enter Tryd.func54, Tryd.ntmps54
            go_upto_region 1 with (fail)
            rw [HW.out]
            go_wp2_with (first
              | (go_at_call 42
                 (with_reducible refine (HC.out _).mono ?_)
                 rintro e w3 ⟨rfl, hE3⟩
                 have HO3 := Lib.hid (HO.out.next hE3)
                 obtain ⟨d0, d1, d2, d3, d4⟩ := HO3.out.a.cells
                 clear hE3 c0 c1 c2 c3 c4)
              | (go_at_call 19
                 (with_reducible refine (HXI.out _).mono ?_)
                 rintro e w4 ⟨rfl, hE4⟩
                 unfold nV
                 obtain ⟨hz, hY⟩ := (HO3.out.next hE4).fill rk rn rf
                 obtain ⟨⟨g0, g1, g2, g3, g4⟩, ⟨a0, a1, a2, a3, a4⟩, s0, s1, s2, s3, s4⟩ := hz
                 unfold set5 at s0 s1 s2 s3 s4
                 have HY := Lib.hid hY
                 clear hY hE4)
              | fail)
            all_goals exact bodyPost_ret (v := nV rk rn rf re) (by simp [results, nV, Tryd.f54, go_sem, s0, s1, s2, s3, s4]) rfl ⟨rk, rn, rf, none, 0, re, rfl, HV.out, HY.out⟩

end Go.Proofs.YtlpifchimnnfdaaDoor
