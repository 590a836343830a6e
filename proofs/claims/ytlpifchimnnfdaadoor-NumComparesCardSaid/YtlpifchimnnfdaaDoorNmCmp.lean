/- Numbers: compared, and told whether they are the same, as both have it. -/
import Derived.Test.YtlpifchimnnfdaaDoorNmRExact
import Derived.Test.YtlpifchimnnfdaaDoorNmOpsWalk
namespace Go.Proofs.YtlpifchimnnfdaaDoor
open Go.RowKit Ieee
attribute [local irreducible] Ext
attribute [local go_sem] run_store_float

/-- A number's value, in units. -/
def numVal (k n : Int) (f : Nat) : Int := if k = 1 then n * (unit : Int) else fval f

theorem orderI_any (a b : Int) (w : World) : Calls Tryd.prog 71 #[.int .i64 a, .int .i64 b] w fun e w' => e = .returned (.int .i64 (cmpI a b)) ∧ w = w' := by
  unfold cmpI
  by_cases h1 : a < b
  · have d1 : decide (a < b) = true := decide_eq_true h1
    rw [if_pos h1]
    clear h1
    go_enter Tryd.func71, Tryd.ntmps71
    go_wp2_with fail
    go_ret
    exact ⟨rfl, rfl⟩
  · have d1 : decide (a < b) = false := decide_eq_false h1
    rw [if_neg h1]
    by_cases h2 : b < a
    · have d2 : decide (b < a) = true := decide_eq_true h2
      rw [if_pos h2]
      clear h1 h2
      go_enter Tryd.func71, Tryd.ntmps71
      go_wp2_with fail
      go_ret
      exact ⟨rfl, rfl⟩
    · have d2 : decide (b < a) = false := decide_eq_false h2
      rw [if_neg h2]
      clear h1 h2
      go_enter Tryd.func71, Tryd.ntmps71
      go_wp2_with fail
      go_ret
      exact ⟨rfl, rfl⟩

theorem order_tests {a b : Nat} (ha : fin a) (hb : fin b) : FloatKind.f64.format.order a b = some (if fval a < fval b then .lt else if fval b < fval a then .gt else .eq) := by
  rw [← compare_int]
  exact order_fin ha hb

theorem orderF_any {a b : Nat} (ha : finF a = true) (hb : finF b = true) (w : World) : Calls Tryd.prog 72 #[.float .f64 a, .float .f64 b] w fun e w' => e = .returned (.int .i64 (cmpI (fval a) (fval b))) ∧ w = w' := by
  have ho := order_tests (finF_fin.1 ha) (finF_fin.1 hb)
  unfold cmpI
  generalize fval a = x at ho
  generalize fval b = y at ho
  clear ha hb
  by_cases h1 : x < y
  · rw [if_pos h1] at ho ⊢
    clear h1
    go_enter Tryd.func72, Tryd.ntmps72
    go_wp2_with fail
    go_ret
    exact ⟨rfl, rfl⟩
  · rw [if_neg h1] at ho ⊢
    by_cases h2 : y < x
    · rw [if_pos h2] at ho ⊢
      clear h1 h2
      go_enter Tryd.func72, Tryd.ntmps72
      go_wp2_with fail
      go_ret
      exact ⟨rfl, rfl⟩
    · rw [if_neg h2] at ho ⊢
      clear h1 h2
      go_enter Tryd.func72, Tryd.ntmps72
      go_wp2_with fail
      go_ret
      exact ⟨rfl, rfl⟩

theorem cmpI_unit (a b : Int) : cmpI (a * (unit : Int)) (b * (unit : Int)) = cmpI a b := by
  unfold cmpI
  simp only [mul_unit_lt]

theorem cmpI_neg (a b : Int) : -(cmpI a b) = cmpI b a := by
  unfold cmpI
  by_cases h1 : a < b
  · rw [if_pos h1, if_neg (show ¬ b < a by omega), if_pos h1]; rfl
  · by_cases h2 : b < a
    · rw [if_neg h1, if_pos h2, if_pos h2]
    · rw [if_neg h1, if_neg h2, if_neg h2, if_neg h1]; rfl

theorem cmpI_range (a b : Int) : -1 ≤ cmpI a b ∧ cmpI a b ≤ 1 := by
  unfold cmpI
  split
  · omega
  · split <;> omega

theorem exV_range {f : Nat} (h : fin f) (n : Int) : -1 ≤ exV f n ∧ exV f n ≤ 1 := by
  rw [exV_fin h]
  exact cmpI_range _ _

/-- Two boxes that a function makes. -/
def Left2 (w0 : World) (k n : Int) (f : Nat) (s : ByteArray) (so : Option Addr) (m cap : Nat) (k' n' : Int) (f' : Nat) (s' : ByteArray) (so' : Option Addr) (m' cap' : Nat) (x y : Value) (w : World) : Prop :=
  ∃ B C, x = .pointer (some ⟨B, 0, none⟩) ∧ y = .pointer (some ⟨C, 0, none⟩) ∧ Ext w0 w ∧ RBox w B k n f s so m cap ∧ RBox w C k' n' f' s' so' m' cap'

set_option maxRecDepth 100000 in
set_option maxHeartbeats 4000000 in
theorem pcmp_any (k n : Int) (f : Nat) (s : ByteArray) (so : Option Addr) (m cap : Nat) (k' n' : Int) (f' : Nat) (s' : ByteArray) (so' : Option Addr) (m' cap' : Nat) (h1 : numV k n f s m = true) (h2 : numV k' n' f' s' m' = true) (w : World) :
    Calls Tryd.prog 43 #[.agg #[.int .i64 k, .int .i64 n, .float .f64 f, .string s, .slice so m cap], .agg #[.int .i64 k', .int .i64 n', .float .f64 f', .string s', .slice so' m' cap']] w fun e w' => e = .returned (.int .i64 (cmpI (numVal k n f) (numVal k' n' f'))) ∧ Ext w w' := by
  obtain ⟨w1, w2, hw1, hw2, hE, hA, hB⟩ := two_boxes w k n f s so m cap k' n' f' s' so' m' cap'
  obtain ⟨V, hV⟩ : ∃ V, cmpI (numVal k n f) (numVal k' n' f') = V := ⟨_, rfl⟩
  rw [hV]
  have HV := Lib.hid hV
  clear hV
  have HW1 := Lib.hid hw1
  have HW2 := Lib.hid hw2
  have HE := Lib.hid hE
  have HA := Lib.hid hA
  have HB := Lib.hid hB
  obtain ⟨a0, a1, a2, a3, a4⟩ := hA.exts
  obtain ⟨b0, b1, b2, b3, b4⟩ := hB.exts
  have hX := Ext.refl w2
  clear hw1 hw2 hE hA hB
  go_enter Tryd.func43, Tryd.ntmps43
  go_upto_region 1 with (fail)
  rw [HW1.out, HW2.out]
  go_cut [5, 6] from 7 to 8 (fun xx yy wx => Left2 w2 k n f s so m cap k' n' f' s' so' m' cap' xx yy wx)
  case first =>
    go_region_held3 (fun w' => Ext w2 w') (repeat (first | assumption | apply Ext.drew | apply Ext.alloc)) (fail)
    · go_wp2
      go_meet
      obtain ⟨v1, v2, hv1, hv2, hEv, hAv, hBv⟩ := two_boxes w2 k n f s so m cap k' n' f' s' so' m' cap'
      subst hv1 hv2
      exact ⟨_, _, rfl, rfl, hEv.drew, hAv.ext (Ext.refl _).drew, hBv.ext (Ext.refl _).drew⟩
    · go_wp2
      go_meet
      obtain ⟨v1, v2, hv1, hv2, hEv, hAv, hBv⟩ := two_boxes w2 k' n' f' s' so' m' cap' k n f s so m cap
      subst hv1 hv2
      exact ⟨_, _, rfl, rfl, hEv.drew, hBv.ext (Ext.refl _).drew, hAv.ext (Ext.refl _).drew⟩
  case rest =>
    obtain ⟨B, C, rfl, rfl, hE2, hB2, hC2⟩ := hcut
    rename World => w3
    obtain ⟨p0, p1, p2, p3, p4⟩ := hB2.cells
    obtain ⟨q0, q1, q2, q3, q4⟩ := hC2.cells
    have HX := Lib.hid (HE.out.trans hE2)
    clear a0 a1 a2 a3 a4 b0 b1 b2 b3 b4 hX hE2 hB2 hC2 HA HB HW1 HW2
    obtain ⟨rfl, rfl, ⟨rfl, rfl, u1, u2⟩ | ⟨rfl, rfl, u1⟩⟩ := numV_shape h1
    · obtain ⟨rfl, rfl, ⟨rfl, rfl, v1, v2⟩ | ⟨rfl, rfl, v1⟩⟩ := numV_shape h2
      · have hv : cmpI (numVal 1 n 0) (numVal 1 n' 0) = cmpI n n' := cmpI_unit n n'
        have HVV := Lib.hid (HV.out.symm.trans hv)
        have HO := Lib.hid (fun w => orderI_any n n' w)
        generalize cmpI n n' = x at HO HVV
        clear h1 h2 u1 u2 v1 v2 hv
        go_wp2_with (first
          | (go_at_call 71; (with_reducible refine (HO.out _).mono ?_); rintro e wa ⟨rfl, rfl⟩)
          | fail)
        go_ret
        exact ⟨by rw [HVV.out]; rfl, HX.out⟩
      · have hv : cmpI (numVal 1 n 0) (numVal 2 0 f') = -(exV f' n) := by
          rw [exV_fin (finF_fin.1 v1), cmpI_neg]
          rfl
        have HVV := Lib.hid (HV.out.symm.trans hv)
        have HO := Lib.hid (fun w => pexact_cmp f' n (by omega) w)
        have hr := exV_range (finF_fin.1 v1) n
        generalize exV f' n = x at HO hr HVV
        have e1 : IntKind.i64.wrap (-x) = -x := IntWalk.i64_in _ (by omega)
        have e2 : IntKind.i64.wrap (0 - x) = -x := by rw [Int.zero_sub]; exact e1
        clear h1 h2 u1 u2 v1 hv hr
        go_wp2_with (first
          | (go_at_call 40; (with_reducible refine (HO.out _).mono ?_); rintro e wa ⟨rfl, rfl⟩)
          | fail)
        go_ret
        exact ⟨by rw [HVV.out]; rfl, HX.out⟩
    · obtain ⟨rfl, rfl, ⟨rfl, rfl, v1, v2⟩ | ⟨rfl, rfl, v1⟩⟩ := numV_shape h2
      · have hv : cmpI (numVal 2 0 f) (numVal 1 n' 0) = exV f n' := (exV_fin (finF_fin.1 u1) n').symm
        have HVV := Lib.hid (HV.out.symm.trans hv)
        have HO := Lib.hid (fun w => pexact_cmp f n' (by omega) w)
        generalize exV f n' = x at HO HVV
        clear h1 h2 u1 v1 v2 hv
        go_wp2_with (first
          | (go_at_call 40; (with_reducible refine (HO.out _).mono ?_); rintro e wa ⟨rfl, rfl⟩)
          | fail)
        go_ret
        exact ⟨by rw [HVV.out]; rfl, HX.out⟩
      · have hv : cmpI (numVal 2 0 f) (numVal 2 0 f') = cmpI (fval f) (fval f') := rfl
        have HVV := Lib.hid (HV.out.symm.trans hv)
        have HO := Lib.hid (fun w => orderF_any u1 v1 w)
        generalize cmpI (fval f) (fval f') = x at HO HVV
        clear h1 h2 u1 v1 hv
        go_wp2_with (first
          | (go_at_call 72; (with_reducible refine (HO.out _).mono ?_); rintro e wa ⟨rfl, rfl⟩)
          | fail)
        go_ret
        exact ⟨by rw [HVV.out]; rfl, HX.out⟩

/-- The document's Cmp. -/
theorem rcmp_any (k n : Int) (f : Nat) (s : ByteArray) (so : Option Addr) (m cap : Nat) (k' n' : Int) (f' : Nat) (s' : ByteArray) (so' : Option Addr) (m' cap' : Nat) (h1 : numV k n f s m = true) (h2 : numV k' n' f' s' m' = true) (w : World) :
    Calls Tryd.prog 44 #[.agg #[.int .i64 k, .int .i64 n, .float .f64 f, .string s, .slice so m cap], .agg #[.int .i64 k', .int .i64 n', .float .f64 f', .string s', .slice so' m' cap']] w fun e w' => e = .returned (.int .i64 (cmpI (numVal k n f) (numVal k' n' f'))) ∧ Ext w w' := by
  obtain ⟨w1, w2, hw1, hw2, hE, hA, hB⟩ := two_boxes w k n f s so m cap k' n' f' s' so' m' cap'
  have HW1 := Lib.hid hw1
  have HW2 := Lib.hid hw2
  have HX := Lib.hid hE
  obtain ⟨p0, p1, p2, p3, p4⟩ := hA.cells
  obtain ⟨q0, q1, q2, q3, q4⟩ := hB.cells
  clear hw1 hw2 hE hA hB
  obtain ⟨rfl, rfl, ⟨rfl, rfl, u1, u2⟩ | ⟨rfl, rfl, u1⟩⟩ := numV_shape h1
  · obtain ⟨rfl, rfl, ⟨rfl, rfl, v1, v2⟩ | ⟨rfl, rfl, v1⟩⟩ := numV_shape h2
    · have hv : cmpI (numVal 1 n 0) (numVal 1 n' 0) = cmpI n n' := cmpI_unit n n'
      rw [hv]
      unfold cmpI
      clear h1 h2 u1 u2 v1 v2 hv
      by_cases c1 : n < n'
      · have d1 : decide (n < n') = true := decide_eq_true c1
        rw [if_pos c1]
        clear c1
        go_enter Tryd.func44, Tryd.ntmps44
        go_upto_region 1 with (fail)
        rw [HW1.out, HW2.out]
        go_wp2_with fail
        go_ret
        exact ⟨rfl, HX.out⟩
      · have d1 : decide (n < n') = false := decide_eq_false c1
        rw [if_neg c1]
        by_cases c2 : n' < n
        · have d2 : decide (n' < n) = true := decide_eq_true c2
          rw [if_pos c2]
          clear c1 c2
          go_enter Tryd.func44, Tryd.ntmps44
          go_upto_region 1 with (fail)
          rw [HW1.out, HW2.out]
          go_wp2_with fail
          go_ret
          exact ⟨rfl, HX.out⟩
        · have d2 : decide (n' < n) = false := decide_eq_false c2
          rw [if_neg c2]
          clear c1 c2
          go_enter Tryd.func44, Tryd.ntmps44
          go_upto_region 1 with (fail)
          rw [HW1.out, HW2.out]
          go_wp2_with fail
          go_ret
          exact ⟨rfl, HX.out⟩
    · have hv : cmpI (numVal 1 n 0) (numVal 2 0 f') = -(exV f' n) := by
        rw [exV_fin (finF_fin.1 v1), cmpI_neg]
        rfl
      rw [hv]
      have HO := Lib.hid (fun w => rexact_cmp f' n (by omega) w)
      have hr := exV_range (finF_fin.1 v1) n
      generalize exV f' n = x at HO hr ⊢
      have e1 : IntKind.i64.wrap (-x) = -x := IntWalk.i64_in _ (by omega)
      have e2 : IntKind.i64.wrap (0 - x) = -x := by rw [Int.zero_sub]; exact e1
      clear h1 h2 u1 u2 v1 hv hr
      go_enter Tryd.func44, Tryd.ntmps44
      go_upto_region 1 with (fail)
      rw [HW1.out, HW2.out]
      go_wp2_with (first
        | (go_at_call 41; (with_reducible refine (HO.out _).mono ?_); rintro e wa ⟨rfl, rfl⟩)
        | fail)
      go_ret
      exact ⟨rfl, HX.out⟩
  · obtain ⟨rfl, rfl, ⟨rfl, rfl, v1, v2⟩ | ⟨rfl, rfl, v1⟩⟩ := numV_shape h2
    · have hv : cmpI (numVal 2 0 f) (numVal 1 n' 0) = exV f n' := (exV_fin (finF_fin.1 u1) n').symm
      rw [hv]
      have HO := Lib.hid (fun w => rexact_cmp f n' (by omega) w)
      generalize exV f n' = x at HO ⊢
      clear h1 h2 u1 v1 v2 hv
      go_enter Tryd.func44, Tryd.ntmps44
      go_upto_region 1 with (fail)
      rw [HW1.out, HW2.out]
      go_wp2_with (first
        | (go_at_call 41; (with_reducible refine (HO.out _).mono ?_); rintro e wa ⟨rfl, rfl⟩)
        | fail)
      go_ret
      exact ⟨rfl, HX.out⟩
    · have hv : cmpI (numVal 2 0 f) (numVal 2 0 f') = cmpI (fval f) (fval f') := rfl
      rw [hv]
      have ho := order_tests (finF_fin.1 u1) (finF_fin.1 v1)
      unfold cmpI
      generalize fval f = x at ho ⊢
      generalize fval f' = y at ho ⊢
      clear h1 h2 u1 v1 hv
      by_cases c1 : x < y
      · rw [if_pos c1] at ho ⊢
        clear c1
        go_enter Tryd.func44, Tryd.ntmps44
        go_upto_region 1 with (fail)
        rw [HW1.out, HW2.out]
        go_wp2_with fail
        go_ret
        exact ⟨rfl, HX.out⟩
      · rw [if_neg c1] at ho ⊢
        by_cases c2 : y < x
        · rw [if_pos c2] at ho ⊢
          clear c1 c2
          go_enter Tryd.func44, Tryd.ntmps44
          go_upto_region 1 with (fail)
          rw [HW1.out, HW2.out]
          go_wp2_with fail
          go_ret
          exact ⟨rfl, HX.out⟩
        · rw [if_neg c2] at ho ⊢
          clear c1 c2
          go_enter Tryd.func44, Tryd.ntmps44
          go_upto_region 1 with (fail)
          rw [HW1.out, HW2.out]
          go_wp2_with fail
          go_ret
          exact ⟨rfl, HX.out⟩

/-- Are two the same? -/
def sameN (k n : Int) (f : Nat) (k' n' : Int) (f' : Nat) : Bool := (k == k') && (n == n') && ((f : Int) == (f' : Int))

/-- The program's Same, of right numbers. -/
theorem psame_any (k n : Int) (f : Nat) (s : ByteArray) (so : Option Addr) (m cap : Nat) (k' n' : Int) (f' : Nat) (s' : ByteArray) (so' : Option Addr) (m' cap' : Nat) (hf : f < 18446744073709551616) (hf' : f' < 18446744073709551616) (h1 : numV k n f s m = true) (h2 : numV k' n' f' s' m' = true) (w : World) :
    Calls Tryd.prog 45 #[.agg #[.int .i64 k, .int .i64 n, .float .f64 f, .string s, .slice so m cap], .agg #[.int .i64 k', .int .i64 n', .float .f64 f', .string s', .slice so' m' cap']] w fun e w' => e = .returned (.bool (sameN k n f k' n' f')) ∧ Ext w w' := by
  obtain ⟨w1, w2, hw1, hw2, hE, hA, hB⟩ := two_boxes w k n f s so m cap k' n' f' s' so' m' cap'
  have HW1 := Lib.hid hw1
  have HW2 := Lib.hid hw2
  have HE := Lib.hid hE
  have HB := Lib.hid hB
  have hC1 := fun w => of_any k n f s so m cap hf w
  have hC2 := fun w => of_any k' n' f' s' so' m' cap' hf' w
  rw [h1] at hC1
  rw [h2] at hC2
  have HC1 := Lib.hid hC1
  have HC2 := Lib.hid hC2
  obtain ⟨p0, p1, p2, p3, p4⟩ := hA.cells
  obtain ⟨r, hr⟩ : ∃ r, sameN k n f k' n' f' = r := ⟨_, rfl⟩
  rw [hr]
  have HR := Lib.hid hr
  clear hw1 hw2 hE hA hB hC1 hC2 h1 h2 hf hf' hr
  go_enter Tryd.func45, Tryd.ntmps45
  go_upto_region 1 with (fail)
  rw [HW1.out, HW2.out]
  go_upto_region 2 with (first
    | ((with_reducible refine (HC1.out _).mono ?_)
       rintro e w4 ⟨k1, n1, f1, rfl, hk1, hE4⟩
       unfold ofV
       obtain ⟨rfl, rfl, rfl⟩ := hk1 rfl
       have HE4 := Lib.hid (HE.out.trans hE4)
       have HB4 := Lib.hid (HB.out.ext hE4)
       clear hk1 hE4 p0 p1 p2 p3 p4)
    | fail)
  have hn := NBox.new w4 k1 n1 (f : Int)
  have hEx := (Ext.refl w4).alloc (.cells #[.int .i64 k1, .int .i64 n1, .int .u64 (f : Int)] 71)
  obtain ⟨w5, hw5⟩ : ∃ w5, w4.alloc (.cells #[.int .i64 k1, .int .i64 n1, .int .u64 (f : Int)] 71) = w5 := ⟨_, rfl⟩
  rw [hw5] at hn hEx ⊢
  have HN5 := Lib.hid hn
  have HE5 := Lib.hid (HE4.out.trans hEx)
  obtain ⟨p0, p1, p2, p3, p4⟩ := (HB4.out.ext hEx).cells
  generalize w4.heap.size = B1 at HN5 ⊢
  clear hn hEx hw5
  go_upto_region 3 with (first
    | ((with_reducible refine (HC2.out _).mono ?_)
       rintro e w6 ⟨k2, n2, f2, rfl, hk2, hE6⟩
       unfold ofV
       obtain ⟨rfl, rfl, rfl⟩ := hk2 rfl
       have HE6 := Lib.hid (HE5.out.trans hE6)
       have HN6 := Lib.hid (HN5.out.ext hE6)
       clear hk2 hE6 p0 p1 p2 p3 p4)
    | fail)
  have hn := NBox.new w6 k2 n2 (f' : Int)
  have hEx := (Ext.refl w6).alloc (.cells #[.int .i64 k2, .int .i64 n2, .int .u64 (f' : Int)] 71)
  obtain ⟨w7, hw7⟩ : ∃ w7, w6.alloc (.cells #[.int .i64 k2, .int .i64 n2, .int .u64 (f' : Int)] 71) = w7 := ⟨_, rfl⟩
  rw [hw7] at hn hEx ⊢
  obtain ⟨q0, q1, q2⟩ := (HN6.out.ext hEx).cells
  obtain ⟨r0, r1, r2⟩ := hn.cells
  have HX := Lib.hid (HE6.out.trans hEx)
  generalize w6.heap.size = B2 at r0 r1 r2 ⊢
  clear hn hEx hw7
  have hr := HR.out
  unfold sameN at hr
  cases c1 : (k1 == k2) <;> cases c2 : (n1 == n2) <;> cases c3 : ((f : Int) == (f' : Int))
  all_goals
    rw [c1, c2, c3] at hr
    obtain rfl := hr
    go_wp2_with fail
    go_ret
    exact ⟨rfl, HX.out⟩

/-- The document's Same. -/
theorem rsame_any (k n : Int) (f : Nat) (s : ByteArray) (so : Option Addr) (m cap : Nat) (k' n' : Int) (f' : Nat) (s' : ByteArray) (so' : Option Addr) (m' cap' : Nat) (w : World) :
    Calls Tryd.prog 46 #[.agg #[.int .i64 k, .int .i64 n, .float .f64 f, .string s, .slice so m cap], .agg #[.int .i64 k', .int .i64 n', .float .f64 f', .string s', .slice so' m' cap']] w fun e w' => e = .returned (.bool (sameN k n f k' n' f')) ∧ Ext w w' := by
  obtain ⟨w1, w2, hw1, hw2, hE, hA, hB⟩ := two_boxes w k n f s so m cap k' n' f' s' so' m' cap'
  have HW1 := Lib.hid hw1
  have HW2 := Lib.hid hw2
  have HX := Lib.hid (fun q => hE.drewN q)
  have hb := run_bits f
  have hb' := run_bits f'
  obtain ⟨p0, p1, p2, p3, p4⟩ := hA.cells
  obtain ⟨q0, q1, q2, q3, q4⟩ := hB.cells
  obtain ⟨r, hr⟩ : ∃ r, sameN k n f k' n' f' = r := ⟨_, rfl⟩
  rw [hr]
  unfold sameN at hr
  clear hw1 hw2 hE hA hB
  cases c1 : (k == k') <;> cases c2 : (n == n') <;> cases c3 : ((f : Int) == (f' : Int))
  all_goals
    rw [c1, c2, c3] at hr
    obtain rfl := hr
    go_enter Tryd.func46, Tryd.ntmps46
    go_upto_region 1 with (fail)
    rw [HW1.out, HW2.out]
    go_quiet (fail)
    go_wp2_with fail
    go_ret
    exact ⟨rfl, HX.out _⟩

end Go.Proofs.YtlpifchimnnfdaaDoor
