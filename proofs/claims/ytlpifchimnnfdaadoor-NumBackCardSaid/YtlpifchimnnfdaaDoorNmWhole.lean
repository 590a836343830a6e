/- Numbers: the program's Whole. -/
import Derived.Test.YtlpifchimnnfdaaDoorNmOf2
import Derived.Test.YtlpifchimnnfdaaDoorNmRound2
namespace Go.Proofs.YtlpifchimnnfdaaDoor
open Go.RowKit Ieee
attribute [local irreducible] Ext
attribute [local go_sem] run_store_float

/-- The four ways, by their names. -/
def howL (j : Nat) : List UInt8 := match j with
  | 0 => [116, 114, 117, 110, 99]
  | 1 => [114, 111, 117, 110, 100]
  | 2 => [102, 108, 111, 111, 114]
  | _ => [99, 101, 105, 108]

/-- A float made whole: as a number, as a float. -/
def wholeW (j : Nat) (f : Nat) : Int := match j with
  | 0 => wholeI .zero f
  | 1 => roundI f
  | 2 => wholeI .down f
  | _ => wholeI .up f

def wholeF (j : Nat) (f : Nat) : Nat := match j with
  | 0 => intg .zero f
  | 1 => roundR f
  | 2 => intg .down f
  | _ => intg .up f

theorem wholeF_one (f : Nat) : wholeF 1 f = roundR f := rfl

theorem whole_val (j : Nat) {f : Nat} (hf : fin f) (h64 : f < 18446744073709551616) : fin (wholeF j f) ∧ fval (wholeF j f) = wholeW j f * (unit : Int) ∧ wholeF j f < 18446744073709551616 := by
  unfold wholeF wholeW
  split
  · exact intg_val .zero (by decide) hf
  · exact round_val hf h64
  · exact intg_val .down (by decide) hf
  · exact intg_val .up (by decide) hf

/-- What Whole tells. -/
def whV (j : Nat) (k n : Int) (f : Nat) (r : Bool) : Value := if r = false then nV 0 0 0 13 else if (k == 1) = true then mkI n else mkI (wholeW j f)

/-- Some float. -/
def SomeF (w : World) (e : Ending) (w' : World) : Prop := ∃ r, e = .returned (.float .f64 r) ∧ Ext w w'

set_option maxRecDepth 100000 in
theorem truncS_any (b : Nat) (w : World) : Calls Tryd.prog 69 #[.float .f64 b] w fun e w' => SomeF w e w' := by
  obtain ⟨r, w2, h, hE⟩ := toInt_some "math.archTrunc" .zero b w
  have hr : Sem.run Tryd.prog (callFunc 85 #[.float .f64 b]) w = .ok (.value (.float .f64 r)) w2 := by
    rw [run_callFunc_extern (P := Tryd.prog) (f := 85) (fn := Tryd.f85) (e := Extern.MathFloor.toIntegral "math.archTrunc" .zero) Tryd.func85 (by kernel_rfl) (by kernel_rfl) (by kernel_rfl) (by kernel_rfl) _ w, h]
    rfl
  clear h
  go_enter Tryd.func69, Tryd.ntmps69
  go_wp2_with fail
  go_ret
  exact ⟨r, rfl, hE⟩

set_option maxRecDepth 100000 in
theorem floorS_any (b : Nat) (w : World) : Calls Tryd.prog 81 #[.float .f64 b] w fun e w' => SomeF w e w' := by
  obtain ⟨r, w2, h, hE⟩ := toInt_some "math.archFloor" .down b w
  have hr : Sem.run Tryd.prog (callFunc 90 #[.float .f64 b]) w = .ok (.value (.float .f64 r)) w2 := by
    rw [run_callFunc_extern (P := Tryd.prog) (f := 90) (fn := Tryd.f90) (e := Extern.MathFloor.toIntegral "math.archFloor" .down) Tryd.func90 (by kernel_rfl) (by kernel_rfl) (by kernel_rfl) (by kernel_rfl) _ w, h]
    rfl
  clear h
  go_enter Tryd.func81, Tryd.ntmps81
  go_wp2_with fail
  go_ret
  exact ⟨r, rfl, hE⟩

set_option maxRecDepth 100000 in
theorem ceilS_any (b : Nat) (w : World) : Calls Tryd.prog 82 #[.float .f64 b] w fun e w' => SomeF w e w' := by
  obtain ⟨r, w2, h, hE⟩ := toInt_some "math.archCeil" .up b w
  have hr : Sem.run Tryd.prog (callFunc 92 #[.float .f64 b]) w = .ok (.value (.float .f64 r)) w2 := by
    rw [run_callFunc_extern (P := Tryd.prog) (f := 92) (fn := Tryd.f92) (e := Extern.MathFloor.toIntegral "math.archCeil" .up) Tryd.func92 (by kernel_rfl) (by kernel_rfl) (by kernel_rfl) (by kernel_rfl) _ w, h]
    rfl
  clear h
  go_enter Tryd.func82, Tryd.ntmps82
  go_wp2_with fail
  go_ret
  exact ⟨r, rfl, hE⟩

theorem roundS_any {b : Nat} (hb : b < 18446744073709551616) (w : World) : Calls Tryd.prog 80 #[.float .f64 b] w fun e w' => SomeF w e w' :=
  (round_any hb w).mono (fun _ _ ⟨h, h'⟩ => ⟨_, h, h' ▸ Ext.refl w⟩)

theorem order_tests' {a b : Nat} (ha : fin a) (hb : fin b) : FloatKind.f64.format.order a b = some (if fval a < fval b then .lt else if fval b < fval a then .gt else .eq) := by
  rw [← compare_int]
  exact order_fin ha hb

theorem realF_lt {k1 n1 : Int} {f1 : Nat} (h : f1 < 18446744073709551616) : realF k1 n1 f1 < 18446744073709551616 := by
  unfold realF
  split
  · exact nearF_lt n1
  · exact h

set_option maxRecDepth 100000 in
set_option maxHeartbeats 4000000 in
theorem pwhole_bad (how : ByteArray) (hb : ∀ j, j < 4 → (how.toList == howL j) = false) (k n : Int) (f : Nat) (s : ByteArray) (so : Option Addr) (m cap : Nat) (hf : f < 18446744073709551616) (w : World) :
    Calls Tryd.prog 53 #[.string how, .agg #[.int .i64 k, .int .i64 n, .float .f64 f, .string s, .slice so m cap]] w fun e w' => e = .returned (nV 0 0 0 13) ∧ Ext w w' := by
  have b1 : (how.toList == [116, 114, 117, 110, 99]) = false := hb 0 (by decide)
  have b2 : (how.toList == [114, 111, 117, 110, 100]) = false := hb 1 (by decide)
  have b3 : (how.toList == [102, 108, 111, 111, 114]) = false := hb 2 (by decide)
  have b4 : (how.toList == [99, 101, 105, 108]) = false := hb 3 (by decide)
  clear hb
  obtain ⟨w2, hw, hO⟩ := one_start w k n f s so m cap
  have HW := Lib.hid hw
  have HO := Lib.hid hO
  have HC1 := Lib.hid (fun w => of_any2 k n f s so m cap hf w)
  obtain ⟨r, hr⟩ : ∃ r, numV k n f s m = r := ⟨_, rfl⟩
  rw [hr] at HC1
  have HR := Lib.hid hr
  have HF := Lib.hid hf
  obtain ⟨c0, c1, c2, c3, c4⟩ := hO.a.cells
  clear hw hO hf hr
  go_enter Tryd.func53, Tryd.ntmps53
  go_upto_region 1 with (fail)
  rw [HW.out]
  go_upto_region 2 with (first
    | ((with_reducible refine (HC1.out _).mono ?_)
       rintro e w4 ⟨k1, n1, f1, rfl, hk1, hE4⟩
       unfold ofV
       have hn := NBox.new w4 k1 n1 (f1 : Int)
       have hEx := (Ext.refl w4).alloc (.cells #[.int .i64 k1, .int .i64 n1, .int .u64 (f1 : Int)] 71)
       obtain ⟨w5, hw5⟩ : ∃ w5, w4.alloc (.cells #[.int .i64 k1, .int .i64 n1, .int .u64 (f1 : Int)] 71) = w5 := ⟨_, rfl⟩
       rw [hw5] at hn hEx
       have HO5 := Lib.hid ((HO.out.next hE4).next hEx)
       have HN5 := Lib.hid hn
       have HK1 := Lib.hid hk1
       clear hn hEx hk1 hE4 c0 c1 c2 c3 c4)
    | fail)
  clear hw5
  have HN5 := HN5.out
  generalize w4.heap.size = B1 at HN5 ⊢
  obtain ⟨d0, d1, d2⟩ := HN5.cells
  have HN5 := Lib.hid HN5
  have HP1 := Lib.hid (fun w => preal_any k1 n1 f1 w)
  have HF1 := Lib.hid (show f1 < 18446744073709551616 by
    rcases HK1.out with ⟨_, _, h⟩ | ⟨_, _, _, h⟩
    · rw [h]; exact HF.out
    · rw [h]; decide)
  go_upto_region 3 with (first
    | (go_at_call 65
       (with_reducible refine (HP1.out _).mono ?_)
       rintro e w8 ⟨rfl, hE8⟩
       have HO8 := Lib.hid (HO5.out.next hE8)
       have HN8 := Lib.hid (HN5.out.ext hE8)
       clear hE8 d0 d1 d2)
    | fail)
  obtain ⟨hz, hY⟩ := HO8.out.fill 0 0 0
  obtain ⟨⟨g0, g1, g2, g3, g4⟩, ⟨a0, a1, a2, a3, a4⟩, s0, s1, s2, s3, s4⟩ := hz
  unfold set5 at s0 s1 s2 s3 s4
  have HY := Lib.hid hY
  clear hY
  go_wp2_with fail
  exact bodyPost_ret (v := nV 0 0 0 13) (by simp [results, nV, Tryd.f53, go_sem, s0, s1, s2, s3, s4]) rfl ⟨rfl, HY.out⟩


set_option maxRecDepth 100000 in
set_option maxHeartbeats 8000000 in
theorem pwhole_0 (how : ByteArray) (hb : how.toList = [116, 114, 117, 110, 99]) (k n : Int) (f : Nat) (s : ByteArray) (so : Option Addr) (m cap : Nat) (hf : f < 18446744073709551616) (w : World) :
    Calls Tryd.prog 53 #[.string how, .agg #[.int .i64 k, .int .i64 n, .float .f64 f, .string s, .slice so m cap]] w fun e w' => e = .returned (whV 0 k n f (numV k n f s m)) ∧ Ext w w' := by
  have b1 : (how.toList == [116, 114, 117, 110, 99]) = true := by rw [hb]; decide
  clear hb
  obtain ⟨w2, hw, hO⟩ := one_start w k n f s so m cap
  have HW := Lib.hid hw
  have HO := Lib.hid hO
  have HC1 := Lib.hid (fun w => of_any2 k n f s so m cap hf w)
  obtain ⟨r, hr⟩ : ∃ r, numV k n f s m = r := ⟨_, rfl⟩
  rw [hr] at HC1 ⊢
  have HR := Lib.hid hr
  have HF := Lib.hid hf
  obtain ⟨c0, c1, c2, c3, c4⟩ := hO.a.cells
  clear hw hO hf hr
  go_enter Tryd.func53, Tryd.ntmps53
  go_upto_region 1 with (fail)
  rw [HW.out]
  go_upto_region 2 with (first
    | ((with_reducible refine (HC1.out _).mono ?_)
       rintro e w4 ⟨k1, n1, f1, rfl, hk1, hE4⟩
       unfold ofV
       have hn := NBox.new w4 k1 n1 (f1 : Int)
       have hEx := (Ext.refl w4).alloc (.cells #[.int .i64 k1, .int .i64 n1, .int .u64 (f1 : Int)] 71)
       obtain ⟨w5, hw5⟩ : ∃ w5, w4.alloc (.cells #[.int .i64 k1, .int .i64 n1, .int .u64 (f1 : Int)] 71) = w5 := ⟨_, rfl⟩
       rw [hw5] at hn hEx
       have HO5 := Lib.hid ((HO.out.next hE4).next hEx)
       have HN5 := Lib.hid hn
       have HK1 := Lib.hid hk1
       clear hn hEx hk1 hE4 c0 c1 c2 c3 c4)
    | fail)
  clear hw5
  have HN5 := HN5.out
  generalize w4.heap.size = B1 at HN5 ⊢
  obtain ⟨d0, d1, d2⟩ := HN5.cells
  have HN5 := Lib.hid HN5
  have HP1 := Lib.hid (fun w => preal_any k1 n1 f1 w)
  have HF1 := Lib.hid (show f1 < 18446744073709551616 by
    rcases HK1.out with ⟨_, _, h⟩ | ⟨_, _, _, h⟩
    · rw [h]; exact HF.out
    · rw [h]; decide)
  cases r
  · have HT := Lib.hid (fun w => truncS_any (realF k1 n1 f1) w)
    go_wp2_with (first
      | (go_at_call 65
         (with_reducible refine (HP1.out _).mono ?_)
         rintro e w8 ⟨rfl, hE8⟩
         have HO8 := Lib.hid (HO5.out.next hE8)
         have HN8 := Lib.hid (HN5.out.ext hE8)
         clear hE8 d0 d1 d2)
      | (go_at_call 69
         (with_reducible refine (HT.out _).mono ?_)
         rintro e w9 ⟨q, rfl, hE9⟩
         obtain ⟨hz, hY⟩ := (HO8.out.next hE9).fill 0 0 0
         obtain ⟨⟨g0, g1, g2, g3, g4⟩, ⟨a0, a1, a2, a3, a4⟩, s0, s1, s2, s3, s4⟩ := hz
         unfold set5 at s0 s1 s2 s3 s4
         have HY := Lib.hid hY
         clear hY hE9)
      | fail)
    exact bodyPost_ret (v := nV 0 0 0 13) (by simp [results, nV, Tryd.f53, go_sem, s0, s1, s2, s3, s4]) rfl ⟨rfl, HY.out⟩
  · obtain ⟨rfl, rfl, rfl⟩ : k1 = k ∧ n1 = n ∧ f1 = f := by
      rcases HK1.out with h | ⟨h, _⟩
      · exact h
      · cases h
    obtain ⟨q, hq⟩ : ∃ q, (k1 == 1) = q := ⟨_, rfl⟩
    have HC3 := Lib.hid (fun w => whole_any k1 n1 f1 w)
    rw [hq] at HC3
    cases q
    · have hfin : finF f1 = true := by
        obtain ⟨_, _, ⟨rfl, _⟩ | ⟨_, _, h⟩⟩ := numV_shape HR.out
        · cases hq
        · exact h
      have hvx : whV 0 k1 n1 f1 true = mkI (wholeW 0 f1) := by unfold whV; rw [if_neg (by decide), if_neg (by rw [hq]; decide)]
      obtain ⟨hF1, hF2, hF3⟩ := whole_val 0 (finF_fin.1 hfin) HF.out
      have hp : realF k1 n1 f1 = f1 := by unfold realF; rw [if_neg (by rw [hq]; decide)]
      rw [hp] at HP1
      have hT : ∀ w, Calls Tryd.prog 69 #[.float .f64 f1] w fun e w' => e = .returned (.float .f64 (wholeF 0 f1)) ∧ w = w' := fun w => trunc_any hfin w
      have hcv := fun hr => run_whole (b := wholeF 0 f1) (finF_fin.2 hF1) hr
      rw [trunc_whole hF2] at hcv
      have ho1 := order_tests' hF1 val59.1
      have ho2 := order_tests' hF1 valm59.1
      rw [hF2, val59.2] at ho1
      rw [hF2, valm59.2] at ho2
      simp only [mul_unit_lt] at ho1 ho2
      generalize wholeF 0 f1 = F at hT ho1 ho2 hcv
      generalize wholeW 0 f1 = W at hvx ho1 ho2 hcv
      have HT := Lib.hid hT
      by_cases h1 : 576460752303423488 ≤ W
      · have HV := Lib.hid (hvx.trans (show mkI W = nV 0 0 0 12 by unfold mkI; rw [if_neg (by omega)]))
        have o1 : (FloatKind.f64.format.order F 4872894796814876672 == some .gt || FloatKind.f64.format.order F 4872894796814876672 == some .eq) = true := by
          rw [ho1]
          by_cases h : W = 576460752303423488
          · rw [if_neg (by omega), if_neg (by omega)]; rfl
          · rw [if_neg (by omega), if_pos (by omega)]; rfl
        clear ho1 ho2 hcv h1 hvx hF1 hF2 hF3 hp hT hfin hq HK1
        go_wp2_with (first
          | (go_at_call 65
             (with_reducible refine (HP1.out _).mono ?_)
             rintro e w8 ⟨rfl, hE8⟩
             have HO8 := Lib.hid (HO5.out.next hE8)
             have HN8 := Lib.hid (HN5.out.ext hE8)
             (obtain ⟨x0, x1, x2⟩ := HN8.out.cells)
             clear hE8 d0 d1 d2)
          | (go_at_call 69; (with_reducible refine (HT.out _).mono ?_); rintro e w9 ⟨rfl, rfl⟩)
          | (go_at_call 61
             (with_reducible refine (HC3.out _).mono ?_)
             rintro e w10 ⟨rfl, hE10⟩
             obtain ⟨hz, hY⟩ := (HO8.out.next hE10).fill 0 0 0
             obtain ⟨⟨g0, g1, g2, g3, g4⟩, ⟨a0, a1, a2, a3, a4⟩, s0, s1, s2, s3, s4⟩ := hz
             unfold set5 at s0 s1 s2 s3 s4
             have HY := Lib.hid hY
             clear hY hE10)
          | fail)
        all_goals exact bodyPost_ret (v := nV 0 0 0 12) (by simp [results, nV, Tryd.f53, go_sem, s0, s1, s2, s3, s4]) rfl ⟨by rw [HV.out], HY.out⟩
      · have o1 : FloatKind.f64.format.order F 4872894796814876672 = some .lt := by rw [ho1, if_pos (by omega)]
        by_cases h2 : W < -576460752303423488
        · have HV := Lib.hid (hvx.trans (show mkI W = nV 0 0 0 12 by unfold mkI; rw [if_neg (by omega)]))
          have o2 : FloatKind.f64.format.order F 14096266833669652480 = some .lt := by rw [ho2, if_pos h2]
          clear ho1 ho2 hcv h1 h2 hvx hF1 hF2 hF3 hp hT hfin hq HK1
          go_wp2_with (first
            | (go_at_call 65
               (with_reducible refine (HP1.out _).mono ?_)
               rintro e w8 ⟨rfl, hE8⟩
               have HO8 := Lib.hid (HO5.out.next hE8)
               have HN8 := Lib.hid (HN5.out.ext hE8)
               (obtain ⟨x0, x1, x2⟩ := HN8.out.cells)
               clear hE8 d0 d1 d2)
            | (go_at_call 69; (with_reducible refine (HT.out _).mono ?_); rintro e w9 ⟨rfl, rfl⟩)
            | (go_at_call 61
               (with_reducible refine (HC3.out _).mono ?_)
               rintro e w10 ⟨rfl, hE10⟩
               obtain ⟨hz, hY⟩ := (HO8.out.next hE10).fill 0 0 0
               obtain ⟨⟨g0, g1, g2, g3, g4⟩, ⟨a0, a1, a2, a3, a4⟩, s0, s1, s2, s3, s4⟩ := hz
               unfold set5 at s0 s1 s2 s3 s4
               have HY := Lib.hid hY
               clear hY hE10)
            | fail)
          all_goals exact bodyPost_ret (v := nV 0 0 0 12) (by simp [results, nV, Tryd.f53, go_sem, s0, s1, s2, s3, s4]) rfl ⟨by rw [HV.out], HY.out⟩
        · have o2 : (FloatKind.f64.format.order F 14096266833669652480 == some .lt) = false := by
            rw [ho2]
            by_cases h : W = -576460752303423488
            · rw [if_neg (by omega), if_neg (by omega)]; rfl
            · rw [if_neg (by omega), if_pos (by omega)]; rfl
          have hcv := hcv (by omega)
          obtain ⟨rk, rn, rf, re, hmk⟩ := nV_form (.inl (mkI_form W))
          have HV := Lib.hid (hvx.trans hmk)
          have hXI := fun w => pint_any W w
          rw [hmk] at hXI
          have HXI := Lib.hid hXI
          clear ho1 ho2 h1 h2 hvx hF1 hF2 hF3 hp hT hfin hq HK1 hmk hXI
          go_wp2_with (first
            | (go_at_call 65
               (with_reducible refine (HP1.out _).mono ?_)
               rintro e w8 ⟨rfl, hE8⟩
               have HO8 := Lib.hid (HO5.out.next hE8)
               have HN8 := Lib.hid (HN5.out.ext hE8)
               (obtain ⟨x0, x1, x2⟩ := HN8.out.cells)
               clear hE8 d0 d1 d2)
            | (go_at_call 69; (with_reducible refine (HT.out _).mono ?_); rintro e w9 ⟨rfl, rfl⟩)
            | (go_at_call 61; (with_reducible refine (HC3.out _).mono ?_); rintro e w10 ⟨rfl, hE10⟩; have HO10 := Lib.hid (HO8.out.next hE10); clear hE10)
            | (go_at_call 18
               (with_reducible refine (HXI.out _).mono ?_)
               rintro e w11 ⟨rfl, hE11⟩
               unfold nV
               obtain ⟨hz, hY⟩ := (HO10.out.next hE11).fill rk rn rf
               obtain ⟨⟨g0, g1, g2, g3, g4⟩, ⟨a0, a1, a2, a3, a4⟩, s0, s1, s2, s3, s4⟩ := hz
               unfold set5 at s0 s1 s2 s3 s4
               have HY := Lib.hid hY
               clear hY hE11)
            | fail)
          exact bodyPost_ret (v := nV rk rn rf re) (by simp [results, nV, Tryd.f53, go_sem, s0, s1, s2, s3, s4]) rfl ⟨by rw [HV.out], HY.out⟩
    · obtain rfl : k1 = 1 := by simpa using hq
      have hvx : whV 0 1 n1 f1 true = mkI n1 := by unfold whV; rw [if_neg (by decide), if_pos (by decide)]
      obtain ⟨rk, rn, rf, re, hmk⟩ := nV_form (.inl (mkI_form n1))
      have HV := Lib.hid (hvx.trans hmk)
      have hXI := fun w => pint_any n1 w
      rw [hmk] at hXI
      have HXI := Lib.hid hXI
      have hg64 : realF 1 n1 f1 < 18446744073709551616 := realF_lt HF1.out
      generalize realF 1 n1 f1 = g at HP1 hg64
      have HT := Lib.hid (fun w => truncS_any g w)
      clear hvx hmk hXI hq HK1 hg64
      go_wp2_with (first
        | (go_at_call 65
           (with_reducible refine (HP1.out _).mono ?_)
           rintro e w8 ⟨rfl, hE8⟩
           have HO8 := Lib.hid (HO5.out.next hE8)
           have HN8 := Lib.hid (HN5.out.ext hE8)
           clear hE8 d0 d1 d2)
        | (go_at_call 69
           (with_reducible refine (HT.out _).mono ?_)
           rintro e w9 ⟨q, rfl, hE9⟩
           have HO9 := Lib.hid (HO8.out.next hE9)
           have HN9 := Lib.hid (HN8.out.ext hE9)
           obtain ⟨x0, x1, x2⟩ := HN9.out.cells
           clear hE9)
        | (go_at_call 61
           (with_reducible refine (HC3.out _).mono ?_)
           rintro e w10 ⟨rfl, hE10⟩
           have HO10 := Lib.hid (HO9.out.next hE10)
           obtain ⟨y0, y1, y2⟩ := (HN9.out.ext hE10).cells
           clear hE10 x0 x1 x2)
        | (go_at_call 18
           (with_reducible refine (HXI.out _).mono ?_)
           rintro e w11 ⟨rfl, hE11⟩
           unfold nV
           obtain ⟨hz, hY⟩ := (HO10.out.next hE11).fill rk rn rf
           obtain ⟨⟨g0, g1, g2, g3, g4⟩, ⟨a0, a1, a2, a3, a4⟩, s0, s1, s2, s3, s4⟩ := hz
           unfold set5 at s0 s1 s2 s3 s4
           have HY := Lib.hid hY
           clear hY hE11)
        | fail)
      exact bodyPost_ret (v := nV rk rn rf re) (by simp [results, nV, Tryd.f53, go_sem, s0, s1, s2, s3, s4]) rfl ⟨by rw [HV.out], HY.out⟩

set_option maxRecDepth 100000 in
set_option maxHeartbeats 8000000 in
theorem pwhole_1 (how : ByteArray) (hb : how.toList = [114, 111, 117, 110, 100]) (k n : Int) (f : Nat) (s : ByteArray) (so : Option Addr) (m cap : Nat) (hf : f < 18446744073709551616) (w : World) :
    Calls Tryd.prog 53 #[.string how, .agg #[.int .i64 k, .int .i64 n, .float .f64 f, .string s, .slice so m cap]] w fun e w' => e = .returned (whV 1 k n f (numV k n f s m)) ∧ Ext w w' := by
  have b1 : (how.toList == [116, 114, 117, 110, 99]) = false := by rw [hb]; decide
  have b2 : (how.toList == [114, 111, 117, 110, 100]) = true := by rw [hb]; decide
  clear hb
  obtain ⟨w2, hw, hO⟩ := one_start w k n f s so m cap
  have HW := Lib.hid hw
  have HO := Lib.hid hO
  have HC1 := Lib.hid (fun w => of_any2 k n f s so m cap hf w)
  obtain ⟨r, hr⟩ : ∃ r, numV k n f s m = r := ⟨_, rfl⟩
  rw [hr] at HC1 ⊢
  have HR := Lib.hid hr
  have HF := Lib.hid hf
  obtain ⟨c0, c1, c2, c3, c4⟩ := hO.a.cells
  clear hw hO hf hr
  go_enter Tryd.func53, Tryd.ntmps53
  go_upto_region 1 with (fail)
  rw [HW.out]
  go_upto_region 2 with (first
    | ((with_reducible refine (HC1.out _).mono ?_)
       rintro e w4 ⟨k1, n1, f1, rfl, hk1, hE4⟩
       unfold ofV
       have hn := NBox.new w4 k1 n1 (f1 : Int)
       have hEx := (Ext.refl w4).alloc (.cells #[.int .i64 k1, .int .i64 n1, .int .u64 (f1 : Int)] 71)
       obtain ⟨w5, hw5⟩ : ∃ w5, w4.alloc (.cells #[.int .i64 k1, .int .i64 n1, .int .u64 (f1 : Int)] 71) = w5 := ⟨_, rfl⟩
       rw [hw5] at hn hEx
       have HO5 := Lib.hid ((HO.out.next hE4).next hEx)
       have HN5 := Lib.hid hn
       have HK1 := Lib.hid hk1
       clear hn hEx hk1 hE4 c0 c1 c2 c3 c4)
    | fail)
  clear hw5
  have HN5 := HN5.out
  generalize w4.heap.size = B1 at HN5 ⊢
  obtain ⟨d0, d1, d2⟩ := HN5.cells
  have HN5 := Lib.hid HN5
  have HP1 := Lib.hid (fun w => preal_any k1 n1 f1 w)
  have HF1 := Lib.hid (show f1 < 18446744073709551616 by
    rcases HK1.out with ⟨_, _, h⟩ | ⟨_, _, _, h⟩
    · rw [h]; exact HF.out
    · rw [h]; decide)
  cases r
  · have HT := Lib.hid (fun w => roundS_any (realF_lt (k1 := k1) (n1 := n1) HF1.out) w)
    go_wp2_with (first
      | (go_at_call 65
         (with_reducible refine (HP1.out _).mono ?_)
         rintro e w8 ⟨rfl, hE8⟩
         have HO8 := Lib.hid (HO5.out.next hE8)
         have HN8 := Lib.hid (HN5.out.ext hE8)
         clear hE8 d0 d1 d2)
      | (go_at_call 80
         (with_reducible refine (HT.out _).mono ?_)
         rintro e w9 ⟨q, rfl, hE9⟩
         obtain ⟨hz, hY⟩ := (HO8.out.next hE9).fill 0 0 0
         obtain ⟨⟨g0, g1, g2, g3, g4⟩, ⟨a0, a1, a2, a3, a4⟩, s0, s1, s2, s3, s4⟩ := hz
         unfold set5 at s0 s1 s2 s3 s4
         have HY := Lib.hid hY
         clear hY hE9)
      | fail)
    exact bodyPost_ret (v := nV 0 0 0 13) (by simp [results, nV, Tryd.f53, go_sem, s0, s1, s2, s3, s4]) rfl ⟨rfl, HY.out⟩
  · obtain ⟨rfl, rfl, rfl⟩ : k1 = k ∧ n1 = n ∧ f1 = f := by
      rcases HK1.out with h | ⟨h, _⟩
      · exact h
      · cases h
    obtain ⟨q, hq⟩ : ∃ q, (k1 == 1) = q := ⟨_, rfl⟩
    have HC3 := Lib.hid (fun w => whole_any k1 n1 f1 w)
    rw [hq] at HC3
    cases q
    · have hfin : finF f1 = true := by
        obtain ⟨_, _, ⟨rfl, _⟩ | ⟨_, _, h⟩⟩ := numV_shape HR.out
        · cases hq
        · exact h
      have hvx : whV 1 k1 n1 f1 true = mkI (wholeW 1 f1) := by unfold whV; rw [if_neg (by decide), if_neg (by rw [hq]; decide)]
      obtain ⟨hF1, hF2, hF3⟩ := whole_val 1 (finF_fin.1 hfin) HF.out
      have hp : realF k1 n1 f1 = f1 := by unfold realF; rw [if_neg (by rw [hq]; decide)]
      rw [hp] at HP1
      have hT : ∀ w, Calls Tryd.prog 80 #[.float .f64 f1] w fun e w' => e = .returned (.float .f64 (wholeF 1 f1)) ∧ w = w' := fun w => by rw [wholeF_one]; exact round_any (b := f1) HF.out w
      have hcv := fun hr => run_whole (b := wholeF 1 f1) (finF_fin.2 hF1) hr
      rw [trunc_whole hF2] at hcv
      have ho1 := order_tests' hF1 val59.1
      have ho2 := order_tests' hF1 valm59.1
      rw [hF2, val59.2] at ho1
      rw [hF2, valm59.2] at ho2
      simp only [mul_unit_lt] at ho1 ho2
      generalize wholeF 1 f1 = F at hT ho1 ho2 hcv
      generalize wholeW 1 f1 = W at hvx ho1 ho2 hcv
      have HT := Lib.hid hT
      by_cases h1 : 576460752303423488 ≤ W
      · have HV := Lib.hid (hvx.trans (show mkI W = nV 0 0 0 12 by unfold mkI; rw [if_neg (by omega)]))
        have o1 : (FloatKind.f64.format.order F 4872894796814876672 == some .gt || FloatKind.f64.format.order F 4872894796814876672 == some .eq) = true := by
          rw [ho1]
          by_cases h : W = 576460752303423488
          · rw [if_neg (by omega), if_neg (by omega)]; rfl
          · rw [if_neg (by omega), if_pos (by omega)]; rfl
        clear ho1 ho2 hcv h1 hvx hF1 hF2 hF3 hp hT hfin hq HK1
        go_wp2_with (first
          | (go_at_call 65
             (with_reducible refine (HP1.out _).mono ?_)
             rintro e w8 ⟨rfl, hE8⟩
             have HO8 := Lib.hid (HO5.out.next hE8)
             have HN8 := Lib.hid (HN5.out.ext hE8)
             (obtain ⟨x0, x1, x2⟩ := HN8.out.cells)
             clear hE8 d0 d1 d2)
          | (go_at_call 80; (with_reducible refine (HT.out _).mono ?_); rintro e w9 ⟨rfl, rfl⟩)
          | (go_at_call 61
             (with_reducible refine (HC3.out _).mono ?_)
             rintro e w10 ⟨rfl, hE10⟩
             obtain ⟨hz, hY⟩ := (HO8.out.next hE10).fill 0 0 0
             obtain ⟨⟨g0, g1, g2, g3, g4⟩, ⟨a0, a1, a2, a3, a4⟩, s0, s1, s2, s3, s4⟩ := hz
             unfold set5 at s0 s1 s2 s3 s4
             have HY := Lib.hid hY
             clear hY hE10)
          | fail)
        all_goals exact bodyPost_ret (v := nV 0 0 0 12) (by simp [results, nV, Tryd.f53, go_sem, s0, s1, s2, s3, s4]) rfl ⟨by rw [HV.out], HY.out⟩
      · have o1 : FloatKind.f64.format.order F 4872894796814876672 = some .lt := by rw [ho1, if_pos (by omega)]
        by_cases h2 : W < -576460752303423488
        · have HV := Lib.hid (hvx.trans (show mkI W = nV 0 0 0 12 by unfold mkI; rw [if_neg (by omega)]))
          have o2 : FloatKind.f64.format.order F 14096266833669652480 = some .lt := by rw [ho2, if_pos h2]
          clear ho1 ho2 hcv h1 h2 hvx hF1 hF2 hF3 hp hT hfin hq HK1
          go_wp2_with (first
            | (go_at_call 65
               (with_reducible refine (HP1.out _).mono ?_)
               rintro e w8 ⟨rfl, hE8⟩
               have HO8 := Lib.hid (HO5.out.next hE8)
               have HN8 := Lib.hid (HN5.out.ext hE8)
               (obtain ⟨x0, x1, x2⟩ := HN8.out.cells)
               clear hE8 d0 d1 d2)
            | (go_at_call 80; (with_reducible refine (HT.out _).mono ?_); rintro e w9 ⟨rfl, rfl⟩)
            | (go_at_call 61
               (with_reducible refine (HC3.out _).mono ?_)
               rintro e w10 ⟨rfl, hE10⟩
               obtain ⟨hz, hY⟩ := (HO8.out.next hE10).fill 0 0 0
               obtain ⟨⟨g0, g1, g2, g3, g4⟩, ⟨a0, a1, a2, a3, a4⟩, s0, s1, s2, s3, s4⟩ := hz
               unfold set5 at s0 s1 s2 s3 s4
               have HY := Lib.hid hY
               clear hY hE10)
            | fail)
          all_goals exact bodyPost_ret (v := nV 0 0 0 12) (by simp [results, nV, Tryd.f53, go_sem, s0, s1, s2, s3, s4]) rfl ⟨by rw [HV.out], HY.out⟩
        · have o2 : (FloatKind.f64.format.order F 14096266833669652480 == some .lt) = false := by
            rw [ho2]
            by_cases h : W = -576460752303423488
            · rw [if_neg (by omega), if_neg (by omega)]; rfl
            · rw [if_neg (by omega), if_pos (by omega)]; rfl
          have hcv := hcv (by omega)
          obtain ⟨rk, rn, rf, re, hmk⟩ := nV_form (.inl (mkI_form W))
          have HV := Lib.hid (hvx.trans hmk)
          have hXI := fun w => pint_any W w
          rw [hmk] at hXI
          have HXI := Lib.hid hXI
          clear ho1 ho2 h1 h2 hvx hF1 hF2 hF3 hp hT hfin hq HK1 hmk hXI
          go_wp2_with (first
            | (go_at_call 65
               (with_reducible refine (HP1.out _).mono ?_)
               rintro e w8 ⟨rfl, hE8⟩
               have HO8 := Lib.hid (HO5.out.next hE8)
               have HN8 := Lib.hid (HN5.out.ext hE8)
               (obtain ⟨x0, x1, x2⟩ := HN8.out.cells)
               clear hE8 d0 d1 d2)
            | (go_at_call 80; (with_reducible refine (HT.out _).mono ?_); rintro e w9 ⟨rfl, rfl⟩)
            | (go_at_call 61; (with_reducible refine (HC3.out _).mono ?_); rintro e w10 ⟨rfl, hE10⟩; have HO10 := Lib.hid (HO8.out.next hE10); clear hE10)
            | (go_at_call 18
               (with_reducible refine (HXI.out _).mono ?_)
               rintro e w11 ⟨rfl, hE11⟩
               unfold nV
               obtain ⟨hz, hY⟩ := (HO10.out.next hE11).fill rk rn rf
               obtain ⟨⟨g0, g1, g2, g3, g4⟩, ⟨a0, a1, a2, a3, a4⟩, s0, s1, s2, s3, s4⟩ := hz
               unfold set5 at s0 s1 s2 s3 s4
               have HY := Lib.hid hY
               clear hY hE11)
            | fail)
          exact bodyPost_ret (v := nV rk rn rf re) (by simp [results, nV, Tryd.f53, go_sem, s0, s1, s2, s3, s4]) rfl ⟨by rw [HV.out], HY.out⟩
    · obtain rfl : k1 = 1 := by simpa using hq
      have hvx : whV 1 1 n1 f1 true = mkI n1 := by unfold whV; rw [if_neg (by decide), if_pos (by decide)]
      obtain ⟨rk, rn, rf, re, hmk⟩ := nV_form (.inl (mkI_form n1))
      have HV := Lib.hid (hvx.trans hmk)
      have hXI := fun w => pint_any n1 w
      rw [hmk] at hXI
      have HXI := Lib.hid hXI
      have hg64 : realF 1 n1 f1 < 18446744073709551616 := realF_lt HF1.out
      generalize realF 1 n1 f1 = g at HP1 hg64
      have HT := Lib.hid (fun w => roundS_any hg64 w)
      clear hvx hmk hXI hq HK1 hg64
      go_wp2_with (first
        | (go_at_call 65
           (with_reducible refine (HP1.out _).mono ?_)
           rintro e w8 ⟨rfl, hE8⟩
           have HO8 := Lib.hid (HO5.out.next hE8)
           have HN8 := Lib.hid (HN5.out.ext hE8)
           clear hE8 d0 d1 d2)
        | (go_at_call 80
           (with_reducible refine (HT.out _).mono ?_)
           rintro e w9 ⟨q, rfl, hE9⟩
           have HO9 := Lib.hid (HO8.out.next hE9)
           have HN9 := Lib.hid (HN8.out.ext hE9)
           obtain ⟨x0, x1, x2⟩ := HN9.out.cells
           clear hE9)
        | (go_at_call 61
           (with_reducible refine (HC3.out _).mono ?_)
           rintro e w10 ⟨rfl, hE10⟩
           have HO10 := Lib.hid (HO9.out.next hE10)
           obtain ⟨y0, y1, y2⟩ := (HN9.out.ext hE10).cells
           clear hE10 x0 x1 x2)
        | (go_at_call 18
           (with_reducible refine (HXI.out _).mono ?_)
           rintro e w11 ⟨rfl, hE11⟩
           unfold nV
           obtain ⟨hz, hY⟩ := (HO10.out.next hE11).fill rk rn rf
           obtain ⟨⟨g0, g1, g2, g3, g4⟩, ⟨a0, a1, a2, a3, a4⟩, s0, s1, s2, s3, s4⟩ := hz
           unfold set5 at s0 s1 s2 s3 s4
           have HY := Lib.hid hY
           clear hY hE11)
        | fail)
      exact bodyPost_ret (v := nV rk rn rf re) (by simp [results, nV, Tryd.f53, go_sem, s0, s1, s2, s3, s4]) rfl ⟨by rw [HV.out], HY.out⟩

set_option maxRecDepth 100000 in
set_option maxHeartbeats 8000000 in
theorem pwhole_2 (how : ByteArray) (hb : how.toList = [102, 108, 111, 111, 114]) (k n : Int) (f : Nat) (s : ByteArray) (so : Option Addr) (m cap : Nat) (hf : f < 18446744073709551616) (w : World) :
    Calls Tryd.prog 53 #[.string how, .agg #[.int .i64 k, .int .i64 n, .float .f64 f, .string s, .slice so m cap]] w fun e w' => e = .returned (whV 2 k n f (numV k n f s m)) ∧ Ext w w' := by
  have b1 : (how.toList == [116, 114, 117, 110, 99]) = false := by rw [hb]; decide
  have b2 : (how.toList == [114, 111, 117, 110, 100]) = false := by rw [hb]; decide
  have b3 : (how.toList == [102, 108, 111, 111, 114]) = true := by rw [hb]; decide
  clear hb
  obtain ⟨w2, hw, hO⟩ := one_start w k n f s so m cap
  have HW := Lib.hid hw
  have HO := Lib.hid hO
  have HC1 := Lib.hid (fun w => of_any2 k n f s so m cap hf w)
  obtain ⟨r, hr⟩ : ∃ r, numV k n f s m = r := ⟨_, rfl⟩
  rw [hr] at HC1 ⊢
  have HR := Lib.hid hr
  have HF := Lib.hid hf
  obtain ⟨c0, c1, c2, c3, c4⟩ := hO.a.cells
  clear hw hO hf hr
  go_enter Tryd.func53, Tryd.ntmps53
  go_upto_region 1 with (fail)
  rw [HW.out]
  go_upto_region 2 with (first
    | ((with_reducible refine (HC1.out _).mono ?_)
       rintro e w4 ⟨k1, n1, f1, rfl, hk1, hE4⟩
       unfold ofV
       have hn := NBox.new w4 k1 n1 (f1 : Int)
       have hEx := (Ext.refl w4).alloc (.cells #[.int .i64 k1, .int .i64 n1, .int .u64 (f1 : Int)] 71)
       obtain ⟨w5, hw5⟩ : ∃ w5, w4.alloc (.cells #[.int .i64 k1, .int .i64 n1, .int .u64 (f1 : Int)] 71) = w5 := ⟨_, rfl⟩
       rw [hw5] at hn hEx
       have HO5 := Lib.hid ((HO.out.next hE4).next hEx)
       have HN5 := Lib.hid hn
       have HK1 := Lib.hid hk1
       clear hn hEx hk1 hE4 c0 c1 c2 c3 c4)
    | fail)
  clear hw5
  have HN5 := HN5.out
  generalize w4.heap.size = B1 at HN5 ⊢
  obtain ⟨d0, d1, d2⟩ := HN5.cells
  have HN5 := Lib.hid HN5
  have HP1 := Lib.hid (fun w => preal_any k1 n1 f1 w)
  have HF1 := Lib.hid (show f1 < 18446744073709551616 by
    rcases HK1.out with ⟨_, _, h⟩ | ⟨_, _, _, h⟩
    · rw [h]; exact HF.out
    · rw [h]; decide)
  cases r
  · have HT := Lib.hid (fun w => floorS_any (realF k1 n1 f1) w)
    go_wp2_with (first
      | (go_at_call 65
         (with_reducible refine (HP1.out _).mono ?_)
         rintro e w8 ⟨rfl, hE8⟩
         have HO8 := Lib.hid (HO5.out.next hE8)
         have HN8 := Lib.hid (HN5.out.ext hE8)
         clear hE8 d0 d1 d2)
      | (go_at_call 81
         (with_reducible refine (HT.out _).mono ?_)
         rintro e w9 ⟨q, rfl, hE9⟩
         obtain ⟨hz, hY⟩ := (HO8.out.next hE9).fill 0 0 0
         obtain ⟨⟨g0, g1, g2, g3, g4⟩, ⟨a0, a1, a2, a3, a4⟩, s0, s1, s2, s3, s4⟩ := hz
         unfold set5 at s0 s1 s2 s3 s4
         have HY := Lib.hid hY
         clear hY hE9)
      | fail)
    exact bodyPost_ret (v := nV 0 0 0 13) (by simp [results, nV, Tryd.f53, go_sem, s0, s1, s2, s3, s4]) rfl ⟨rfl, HY.out⟩
  · obtain ⟨rfl, rfl, rfl⟩ : k1 = k ∧ n1 = n ∧ f1 = f := by
      rcases HK1.out with h | ⟨h, _⟩
      · exact h
      · cases h
    obtain ⟨q, hq⟩ : ∃ q, (k1 == 1) = q := ⟨_, rfl⟩
    have HC3 := Lib.hid (fun w => whole_any k1 n1 f1 w)
    rw [hq] at HC3
    cases q
    · have hfin : finF f1 = true := by
        obtain ⟨_, _, ⟨rfl, _⟩ | ⟨_, _, h⟩⟩ := numV_shape HR.out
        · cases hq
        · exact h
      have hvx : whV 2 k1 n1 f1 true = mkI (wholeW 2 f1) := by unfold whV; rw [if_neg (by decide), if_neg (by rw [hq]; decide)]
      obtain ⟨hF1, hF2, hF3⟩ := whole_val 2 (finF_fin.1 hfin) HF.out
      have hp : realF k1 n1 f1 = f1 := by unfold realF; rw [if_neg (by rw [hq]; decide)]
      rw [hp] at HP1
      have hT : ∀ w, Calls Tryd.prog 81 #[.float .f64 f1] w fun e w' => e = .returned (.float .f64 (wholeF 2 f1)) ∧ w = w' := fun w => floor_any hfin w
      have hcv := fun hr => run_whole (b := wholeF 2 f1) (finF_fin.2 hF1) hr
      rw [trunc_whole hF2] at hcv
      have ho1 := order_tests' hF1 val59.1
      have ho2 := order_tests' hF1 valm59.1
      rw [hF2, val59.2] at ho1
      rw [hF2, valm59.2] at ho2
      simp only [mul_unit_lt] at ho1 ho2
      generalize wholeF 2 f1 = F at hT ho1 ho2 hcv
      generalize wholeW 2 f1 = W at hvx ho1 ho2 hcv
      have HT := Lib.hid hT
      by_cases h1 : 576460752303423488 ≤ W
      · have HV := Lib.hid (hvx.trans (show mkI W = nV 0 0 0 12 by unfold mkI; rw [if_neg (by omega)]))
        have o1 : (FloatKind.f64.format.order F 4872894796814876672 == some .gt || FloatKind.f64.format.order F 4872894796814876672 == some .eq) = true := by
          rw [ho1]
          by_cases h : W = 576460752303423488
          · rw [if_neg (by omega), if_neg (by omega)]; rfl
          · rw [if_neg (by omega), if_pos (by omega)]; rfl
        clear ho1 ho2 hcv h1 hvx hF1 hF2 hF3 hp hT hfin hq HK1
        go_wp2_with (first
          | (go_at_call 65
             (with_reducible refine (HP1.out _).mono ?_)
             rintro e w8 ⟨rfl, hE8⟩
             have HO8 := Lib.hid (HO5.out.next hE8)
             have HN8 := Lib.hid (HN5.out.ext hE8)
             (obtain ⟨x0, x1, x2⟩ := HN8.out.cells)
             clear hE8 d0 d1 d2)
          | (go_at_call 81; (with_reducible refine (HT.out _).mono ?_); rintro e w9 ⟨rfl, rfl⟩)
          | (go_at_call 61
             (with_reducible refine (HC3.out _).mono ?_)
             rintro e w10 ⟨rfl, hE10⟩
             obtain ⟨hz, hY⟩ := (HO8.out.next hE10).fill 0 0 0
             obtain ⟨⟨g0, g1, g2, g3, g4⟩, ⟨a0, a1, a2, a3, a4⟩, s0, s1, s2, s3, s4⟩ := hz
             unfold set5 at s0 s1 s2 s3 s4
             have HY := Lib.hid hY
             clear hY hE10)
          | fail)
        all_goals exact bodyPost_ret (v := nV 0 0 0 12) (by simp [results, nV, Tryd.f53, go_sem, s0, s1, s2, s3, s4]) rfl ⟨by rw [HV.out], HY.out⟩
      · have o1 : FloatKind.f64.format.order F 4872894796814876672 = some .lt := by rw [ho1, if_pos (by omega)]
        by_cases h2 : W < -576460752303423488
        · have HV := Lib.hid (hvx.trans (show mkI W = nV 0 0 0 12 by unfold mkI; rw [if_neg (by omega)]))
          have o2 : FloatKind.f64.format.order F 14096266833669652480 = some .lt := by rw [ho2, if_pos h2]
          clear ho1 ho2 hcv h1 h2 hvx hF1 hF2 hF3 hp hT hfin hq HK1
          go_wp2_with (first
            | (go_at_call 65
               (with_reducible refine (HP1.out _).mono ?_)
               rintro e w8 ⟨rfl, hE8⟩
               have HO8 := Lib.hid (HO5.out.next hE8)
               have HN8 := Lib.hid (HN5.out.ext hE8)
               (obtain ⟨x0, x1, x2⟩ := HN8.out.cells)
               clear hE8 d0 d1 d2)
            | (go_at_call 81; (with_reducible refine (HT.out _).mono ?_); rintro e w9 ⟨rfl, rfl⟩)
            | (go_at_call 61
               (with_reducible refine (HC3.out _).mono ?_)
               rintro e w10 ⟨rfl, hE10⟩
               obtain ⟨hz, hY⟩ := (HO8.out.next hE10).fill 0 0 0
               obtain ⟨⟨g0, g1, g2, g3, g4⟩, ⟨a0, a1, a2, a3, a4⟩, s0, s1, s2, s3, s4⟩ := hz
               unfold set5 at s0 s1 s2 s3 s4
               have HY := Lib.hid hY
               clear hY hE10)
            | fail)
          all_goals exact bodyPost_ret (v := nV 0 0 0 12) (by simp [results, nV, Tryd.f53, go_sem, s0, s1, s2, s3, s4]) rfl ⟨by rw [HV.out], HY.out⟩
        · have o2 : (FloatKind.f64.format.order F 14096266833669652480 == some .lt) = false := by
            rw [ho2]
            by_cases h : W = -576460752303423488
            · rw [if_neg (by omega), if_neg (by omega)]; rfl
            · rw [if_neg (by omega), if_pos (by omega)]; rfl
          have hcv := hcv (by omega)
          obtain ⟨rk, rn, rf, re, hmk⟩ := nV_form (.inl (mkI_form W))
          have HV := Lib.hid (hvx.trans hmk)
          have hXI := fun w => pint_any W w
          rw [hmk] at hXI
          have HXI := Lib.hid hXI
          clear ho1 ho2 h1 h2 hvx hF1 hF2 hF3 hp hT hfin hq HK1 hmk hXI
          go_wp2_with (first
            | (go_at_call 65
               (with_reducible refine (HP1.out _).mono ?_)
               rintro e w8 ⟨rfl, hE8⟩
               have HO8 := Lib.hid (HO5.out.next hE8)
               have HN8 := Lib.hid (HN5.out.ext hE8)
               (obtain ⟨x0, x1, x2⟩ := HN8.out.cells)
               clear hE8 d0 d1 d2)
            | (go_at_call 81; (with_reducible refine (HT.out _).mono ?_); rintro e w9 ⟨rfl, rfl⟩)
            | (go_at_call 61; (with_reducible refine (HC3.out _).mono ?_); rintro e w10 ⟨rfl, hE10⟩; have HO10 := Lib.hid (HO8.out.next hE10); clear hE10)
            | (go_at_call 18
               (with_reducible refine (HXI.out _).mono ?_)
               rintro e w11 ⟨rfl, hE11⟩
               unfold nV
               obtain ⟨hz, hY⟩ := (HO10.out.next hE11).fill rk rn rf
               obtain ⟨⟨g0, g1, g2, g3, g4⟩, ⟨a0, a1, a2, a3, a4⟩, s0, s1, s2, s3, s4⟩ := hz
               unfold set5 at s0 s1 s2 s3 s4
               have HY := Lib.hid hY
               clear hY hE11)
            | fail)
          exact bodyPost_ret (v := nV rk rn rf re) (by simp [results, nV, Tryd.f53, go_sem, s0, s1, s2, s3, s4]) rfl ⟨by rw [HV.out], HY.out⟩
    · obtain rfl : k1 = 1 := by simpa using hq
      have hvx : whV 2 1 n1 f1 true = mkI n1 := by unfold whV; rw [if_neg (by decide), if_pos (by decide)]
      obtain ⟨rk, rn, rf, re, hmk⟩ := nV_form (.inl (mkI_form n1))
      have HV := Lib.hid (hvx.trans hmk)
      have hXI := fun w => pint_any n1 w
      rw [hmk] at hXI
      have HXI := Lib.hid hXI
      have hg64 : realF 1 n1 f1 < 18446744073709551616 := realF_lt HF1.out
      generalize realF 1 n1 f1 = g at HP1 hg64
      have HT := Lib.hid (fun w => floorS_any g w)
      clear hvx hmk hXI hq HK1 hg64
      go_wp2_with (first
        | (go_at_call 65
           (with_reducible refine (HP1.out _).mono ?_)
           rintro e w8 ⟨rfl, hE8⟩
           have HO8 := Lib.hid (HO5.out.next hE8)
           have HN8 := Lib.hid (HN5.out.ext hE8)
           clear hE8 d0 d1 d2)
        | (go_at_call 81
           (with_reducible refine (HT.out _).mono ?_)
           rintro e w9 ⟨q, rfl, hE9⟩
           have HO9 := Lib.hid (HO8.out.next hE9)
           have HN9 := Lib.hid (HN8.out.ext hE9)
           obtain ⟨x0, x1, x2⟩ := HN9.out.cells
           clear hE9)
        | (go_at_call 61
           (with_reducible refine (HC3.out _).mono ?_)
           rintro e w10 ⟨rfl, hE10⟩
           have HO10 := Lib.hid (HO9.out.next hE10)
           obtain ⟨y0, y1, y2⟩ := (HN9.out.ext hE10).cells
           clear hE10 x0 x1 x2)
        | (go_at_call 18
           (with_reducible refine (HXI.out _).mono ?_)
           rintro e w11 ⟨rfl, hE11⟩
           unfold nV
           obtain ⟨hz, hY⟩ := (HO10.out.next hE11).fill rk rn rf
           obtain ⟨⟨g0, g1, g2, g3, g4⟩, ⟨a0, a1, a2, a3, a4⟩, s0, s1, s2, s3, s4⟩ := hz
           unfold set5 at s0 s1 s2 s3 s4
           have HY := Lib.hid hY
           clear hY hE11)
        | fail)
      exact bodyPost_ret (v := nV rk rn rf re) (by simp [results, nV, Tryd.f53, go_sem, s0, s1, s2, s3, s4]) rfl ⟨by rw [HV.out], HY.out⟩

set_option maxRecDepth 100000 in
set_option maxHeartbeats 8000000 in
theorem pwhole_3 (how : ByteArray) (hb : how.toList = [99, 101, 105, 108]) (k n : Int) (f : Nat) (s : ByteArray) (so : Option Addr) (m cap : Nat) (hf : f < 18446744073709551616) (w : World) :
    Calls Tryd.prog 53 #[.string how, .agg #[.int .i64 k, .int .i64 n, .float .f64 f, .string s, .slice so m cap]] w fun e w' => e = .returned (whV 3 k n f (numV k n f s m)) ∧ Ext w w' := by
  have b1 : (how.toList == [116, 114, 117, 110, 99]) = false := by rw [hb]; decide
  have b2 : (how.toList == [114, 111, 117, 110, 100]) = false := by rw [hb]; decide
  have b3 : (how.toList == [102, 108, 111, 111, 114]) = false := by rw [hb]; decide
  have b4 : (how.toList == [99, 101, 105, 108]) = true := by rw [hb]; decide
  clear hb
  obtain ⟨w2, hw, hO⟩ := one_start w k n f s so m cap
  have HW := Lib.hid hw
  have HO := Lib.hid hO
  have HC1 := Lib.hid (fun w => of_any2 k n f s so m cap hf w)
  obtain ⟨r, hr⟩ : ∃ r, numV k n f s m = r := ⟨_, rfl⟩
  rw [hr] at HC1 ⊢
  have HR := Lib.hid hr
  have HF := Lib.hid hf
  obtain ⟨c0, c1, c2, c3, c4⟩ := hO.a.cells
  clear hw hO hf hr
  go_enter Tryd.func53, Tryd.ntmps53
  go_upto_region 1 with (fail)
  rw [HW.out]
  go_upto_region 2 with (first
    | ((with_reducible refine (HC1.out _).mono ?_)
       rintro e w4 ⟨k1, n1, f1, rfl, hk1, hE4⟩
       unfold ofV
       have hn := NBox.new w4 k1 n1 (f1 : Int)
       have hEx := (Ext.refl w4).alloc (.cells #[.int .i64 k1, .int .i64 n1, .int .u64 (f1 : Int)] 71)
       obtain ⟨w5, hw5⟩ : ∃ w5, w4.alloc (.cells #[.int .i64 k1, .int .i64 n1, .int .u64 (f1 : Int)] 71) = w5 := ⟨_, rfl⟩
       rw [hw5] at hn hEx
       have HO5 := Lib.hid ((HO.out.next hE4).next hEx)
       have HN5 := Lib.hid hn
       have HK1 := Lib.hid hk1
       clear hn hEx hk1 hE4 c0 c1 c2 c3 c4)
    | fail)
  clear hw5
  have HN5 := HN5.out
  generalize w4.heap.size = B1 at HN5 ⊢
  obtain ⟨d0, d1, d2⟩ := HN5.cells
  have HN5 := Lib.hid HN5
  have HP1 := Lib.hid (fun w => preal_any k1 n1 f1 w)
  have HF1 := Lib.hid (show f1 < 18446744073709551616 by
    rcases HK1.out with ⟨_, _, h⟩ | ⟨_, _, _, h⟩
    · rw [h]; exact HF.out
    · rw [h]; decide)
  cases r
  · have HT := Lib.hid (fun w => ceilS_any (realF k1 n1 f1) w)
    go_wp2_with (first
      | (go_at_call 65
         (with_reducible refine (HP1.out _).mono ?_)
         rintro e w8 ⟨rfl, hE8⟩
         have HO8 := Lib.hid (HO5.out.next hE8)
         have HN8 := Lib.hid (HN5.out.ext hE8)
         clear hE8 d0 d1 d2)
      | (go_at_call 82
         (with_reducible refine (HT.out _).mono ?_)
         rintro e w9 ⟨q, rfl, hE9⟩
         obtain ⟨hz, hY⟩ := (HO8.out.next hE9).fill 0 0 0
         obtain ⟨⟨g0, g1, g2, g3, g4⟩, ⟨a0, a1, a2, a3, a4⟩, s0, s1, s2, s3, s4⟩ := hz
         unfold set5 at s0 s1 s2 s3 s4
         have HY := Lib.hid hY
         clear hY hE9)
      | fail)
    exact bodyPost_ret (v := nV 0 0 0 13) (by simp [results, nV, Tryd.f53, go_sem, s0, s1, s2, s3, s4]) rfl ⟨rfl, HY.out⟩
  · obtain ⟨rfl, rfl, rfl⟩ : k1 = k ∧ n1 = n ∧ f1 = f := by
      rcases HK1.out with h | ⟨h, _⟩
      · exact h
      · cases h
    obtain ⟨q, hq⟩ : ∃ q, (k1 == 1) = q := ⟨_, rfl⟩
    have HC3 := Lib.hid (fun w => whole_any k1 n1 f1 w)
    rw [hq] at HC3
    cases q
    · have hfin : finF f1 = true := by
        obtain ⟨_, _, ⟨rfl, _⟩ | ⟨_, _, h⟩⟩ := numV_shape HR.out
        · cases hq
        · exact h
      have hvx : whV 3 k1 n1 f1 true = mkI (wholeW 3 f1) := by unfold whV; rw [if_neg (by decide), if_neg (by rw [hq]; decide)]
      obtain ⟨hF1, hF2, hF3⟩ := whole_val 3 (finF_fin.1 hfin) HF.out
      have hp : realF k1 n1 f1 = f1 := by unfold realF; rw [if_neg (by rw [hq]; decide)]
      rw [hp] at HP1
      have hT : ∀ w, Calls Tryd.prog 82 #[.float .f64 f1] w fun e w' => e = .returned (.float .f64 (wholeF 3 f1)) ∧ w = w' := fun w => ceil_any hfin w
      have hcv := fun hr => run_whole (b := wholeF 3 f1) (finF_fin.2 hF1) hr
      rw [trunc_whole hF2] at hcv
      have ho1 := order_tests' hF1 val59.1
      have ho2 := order_tests' hF1 valm59.1
      rw [hF2, val59.2] at ho1
      rw [hF2, valm59.2] at ho2
      simp only [mul_unit_lt] at ho1 ho2
      generalize wholeF 3 f1 = F at hT ho1 ho2 hcv
      generalize wholeW 3 f1 = W at hvx ho1 ho2 hcv
      have HT := Lib.hid hT
      by_cases h1 : 576460752303423488 ≤ W
      · have HV := Lib.hid (hvx.trans (show mkI W = nV 0 0 0 12 by unfold mkI; rw [if_neg (by omega)]))
        have o1 : (FloatKind.f64.format.order F 4872894796814876672 == some .gt || FloatKind.f64.format.order F 4872894796814876672 == some .eq) = true := by
          rw [ho1]
          by_cases h : W = 576460752303423488
          · rw [if_neg (by omega), if_neg (by omega)]; rfl
          · rw [if_neg (by omega), if_pos (by omega)]; rfl
        clear ho1 ho2 hcv h1 hvx hF1 hF2 hF3 hp hT hfin hq HK1
        go_wp2_with (first
          | (go_at_call 65
             (with_reducible refine (HP1.out _).mono ?_)
             rintro e w8 ⟨rfl, hE8⟩
             have HO8 := Lib.hid (HO5.out.next hE8)
             have HN8 := Lib.hid (HN5.out.ext hE8)
             (obtain ⟨x0, x1, x2⟩ := HN8.out.cells)
             clear hE8 d0 d1 d2)
          | (go_at_call 82; (with_reducible refine (HT.out _).mono ?_); rintro e w9 ⟨rfl, rfl⟩)
          | (go_at_call 61
             (with_reducible refine (HC3.out _).mono ?_)
             rintro e w10 ⟨rfl, hE10⟩
             obtain ⟨hz, hY⟩ := (HO8.out.next hE10).fill 0 0 0
             obtain ⟨⟨g0, g1, g2, g3, g4⟩, ⟨a0, a1, a2, a3, a4⟩, s0, s1, s2, s3, s4⟩ := hz
             unfold set5 at s0 s1 s2 s3 s4
             have HY := Lib.hid hY
             clear hY hE10)
          | fail)
        all_goals exact bodyPost_ret (v := nV 0 0 0 12) (by simp [results, nV, Tryd.f53, go_sem, s0, s1, s2, s3, s4]) rfl ⟨by rw [HV.out], HY.out⟩
      · have o1 : FloatKind.f64.format.order F 4872894796814876672 = some .lt := by rw [ho1, if_pos (by omega)]
        by_cases h2 : W < -576460752303423488
        · have HV := Lib.hid (hvx.trans (show mkI W = nV 0 0 0 12 by unfold mkI; rw [if_neg (by omega)]))
          have o2 : FloatKind.f64.format.order F 14096266833669652480 = some .lt := by rw [ho2, if_pos h2]
          clear ho1 ho2 hcv h1 h2 hvx hF1 hF2 hF3 hp hT hfin hq HK1
          go_wp2_with (first
            | (go_at_call 65
               (with_reducible refine (HP1.out _).mono ?_)
               rintro e w8 ⟨rfl, hE8⟩
               have HO8 := Lib.hid (HO5.out.next hE8)
               have HN8 := Lib.hid (HN5.out.ext hE8)
               (obtain ⟨x0, x1, x2⟩ := HN8.out.cells)
               clear hE8 d0 d1 d2)
            | (go_at_call 82; (with_reducible refine (HT.out _).mono ?_); rintro e w9 ⟨rfl, rfl⟩)
            | (go_at_call 61
               (with_reducible refine (HC3.out _).mono ?_)
               rintro e w10 ⟨rfl, hE10⟩
               obtain ⟨hz, hY⟩ := (HO8.out.next hE10).fill 0 0 0
               obtain ⟨⟨g0, g1, g2, g3, g4⟩, ⟨a0, a1, a2, a3, a4⟩, s0, s1, s2, s3, s4⟩ := hz
               unfold set5 at s0 s1 s2 s3 s4
               have HY := Lib.hid hY
               clear hY hE10)
            | fail)
          all_goals exact bodyPost_ret (v := nV 0 0 0 12) (by simp [results, nV, Tryd.f53, go_sem, s0, s1, s2, s3, s4]) rfl ⟨by rw [HV.out], HY.out⟩
        · have o2 : (FloatKind.f64.format.order F 14096266833669652480 == some .lt) = false := by
            rw [ho2]
            by_cases h : W = -576460752303423488
            · rw [if_neg (by omega), if_neg (by omega)]; rfl
            · rw [if_neg (by omega), if_pos (by omega)]; rfl
          have hcv := hcv (by omega)
          obtain ⟨rk, rn, rf, re, hmk⟩ := nV_form (.inl (mkI_form W))
          have HV := Lib.hid (hvx.trans hmk)
          have hXI := fun w => pint_any W w
          rw [hmk] at hXI
          have HXI := Lib.hid hXI
          clear ho1 ho2 h1 h2 hvx hF1 hF2 hF3 hp hT hfin hq HK1 hmk hXI
          go_wp2_with (first
            | (go_at_call 65
               (with_reducible refine (HP1.out _).mono ?_)
               rintro e w8 ⟨rfl, hE8⟩
               have HO8 := Lib.hid (HO5.out.next hE8)
               have HN8 := Lib.hid (HN5.out.ext hE8)
               (obtain ⟨x0, x1, x2⟩ := HN8.out.cells)
               clear hE8 d0 d1 d2)
            | (go_at_call 82; (with_reducible refine (HT.out _).mono ?_); rintro e w9 ⟨rfl, rfl⟩)
            | (go_at_call 61; (with_reducible refine (HC3.out _).mono ?_); rintro e w10 ⟨rfl, hE10⟩; have HO10 := Lib.hid (HO8.out.next hE10); clear hE10)
            | (go_at_call 18
               (with_reducible refine (HXI.out _).mono ?_)
               rintro e w11 ⟨rfl, hE11⟩
               unfold nV
               obtain ⟨hz, hY⟩ := (HO10.out.next hE11).fill rk rn rf
               obtain ⟨⟨g0, g1, g2, g3, g4⟩, ⟨a0, a1, a2, a3, a4⟩, s0, s1, s2, s3, s4⟩ := hz
               unfold set5 at s0 s1 s2 s3 s4
               have HY := Lib.hid hY
               clear hY hE11)
            | fail)
          exact bodyPost_ret (v := nV rk rn rf re) (by simp [results, nV, Tryd.f53, go_sem, s0, s1, s2, s3, s4]) rfl ⟨by rw [HV.out], HY.out⟩
    · obtain rfl : k1 = 1 := by simpa using hq
      have hvx : whV 3 1 n1 f1 true = mkI n1 := by unfold whV; rw [if_neg (by decide), if_pos (by decide)]
      obtain ⟨rk, rn, rf, re, hmk⟩ := nV_form (.inl (mkI_form n1))
      have HV := Lib.hid (hvx.trans hmk)
      have hXI := fun w => pint_any n1 w
      rw [hmk] at hXI
      have HXI := Lib.hid hXI
      have hg64 : realF 1 n1 f1 < 18446744073709551616 := realF_lt HF1.out
      generalize realF 1 n1 f1 = g at HP1 hg64
      have HT := Lib.hid (fun w => ceilS_any g w)
      clear hvx hmk hXI hq HK1 hg64
      go_wp2_with (first
        | (go_at_call 65
           (with_reducible refine (HP1.out _).mono ?_)
           rintro e w8 ⟨rfl, hE8⟩
           have HO8 := Lib.hid (HO5.out.next hE8)
           have HN8 := Lib.hid (HN5.out.ext hE8)
           clear hE8 d0 d1 d2)
        | (go_at_call 82
           (with_reducible refine (HT.out _).mono ?_)
           rintro e w9 ⟨q, rfl, hE9⟩
           have HO9 := Lib.hid (HO8.out.next hE9)
           have HN9 := Lib.hid (HN8.out.ext hE9)
           obtain ⟨x0, x1, x2⟩ := HN9.out.cells
           clear hE9)
        | (go_at_call 61
           (with_reducible refine (HC3.out _).mono ?_)
           rintro e w10 ⟨rfl, hE10⟩
           have HO10 := Lib.hid (HO9.out.next hE10)
           obtain ⟨y0, y1, y2⟩ := (HN9.out.ext hE10).cells
           clear hE10 x0 x1 x2)
        | (go_at_call 18
           (with_reducible refine (HXI.out _).mono ?_)
           rintro e w11 ⟨rfl, hE11⟩
           unfold nV
           obtain ⟨hz, hY⟩ := (HO10.out.next hE11).fill rk rn rf
           obtain ⟨⟨g0, g1, g2, g3, g4⟩, ⟨a0, a1, a2, a3, a4⟩, s0, s1, s2, s3, s4⟩ := hz
           unfold set5 at s0 s1 s2 s3 s4
           have HY := Lib.hid hY
           clear hY hE11)
        | fail)
      exact bodyPost_ret (v := nV rk rn rf re) (by simp [results, nV, Tryd.f53, go_sem, s0, s1, s2, s3, s4]) rfl ⟨by rw [HV.out], HY.out⟩

end Go.Proofs.YtlpifchimnnfdaaDoor
