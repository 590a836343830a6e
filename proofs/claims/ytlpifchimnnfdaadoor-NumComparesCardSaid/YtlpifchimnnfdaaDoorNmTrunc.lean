/- Numbers: Go's library makes floats whole; a float against a whole number, as both have it. -/
import Derived.Test.YtlpifchimnnfdaaDoorNmSlot
import Derived.Test.YtlpifchimnnfdaaDoorNmRNear2
import Derived.Test.YtlpifchimnnfdaaDoorNmReck
namespace Go.Proofs.YtlpifchimnnfdaaDoor
open Go.RowKit Ieee
attribute [local irreducible] Ext
attribute [local go_sem] run_store_float

theorem toInt_pure (nm : String) (way : Ieee.Toward) {b : Nat} (hb : finF b = true) : Extern.MathFloor.toIntegral nm way #[.float .f64 b] = pure (.float .f64 (intg way b)) := by
  obtain ⟨_, neg, m, p, hr⟩ | ⟨hf, _⟩ := finF_cases b
  · have hd : FloatKind.f64.decode b = .number neg m p := hr
    conv => lhs; whnf
    rw [hd]
    unfold intg
    rw [hr]
    rfl
  · rw [hb] at hf; cases hf

theorem run_archTrunc {b : Nat} (hb : finF b = true) (w : World) : Sem.run Tryd.prog (callFunc 85 #[.float .f64 b]) w = .ok (.value (.float .f64 (intg .zero b))) w := by
  rw [run_callFunc_extern (P := Tryd.prog) (f := 85) (fn := Tryd.f85) (e := Extern.MathFloor.toIntegral "math.archTrunc" .zero) Tryd.func85 (by kernel_rfl) (by kernel_rfl) (by kernel_rfl) (by kernel_rfl) _ w, toInt_pure _ _ hb]
  rfl

theorem run_archFloor {b : Nat} (hb : finF b = true) (w : World) : Sem.run Tryd.prog (callFunc 90 #[.float .f64 b]) w = .ok (.value (.float .f64 (intg .down b))) w := by
  rw [run_callFunc_extern (P := Tryd.prog) (f := 90) (fn := Tryd.f90) (e := Extern.MathFloor.toIntegral "math.archFloor" .down) Tryd.func90 (by kernel_rfl) (by kernel_rfl) (by kernel_rfl) (by kernel_rfl) _ w, toInt_pure _ _ hb]
  rfl

theorem run_archCeil {b : Nat} (hb : finF b = true) (w : World) : Sem.run Tryd.prog (callFunc 92 #[.float .f64 b]) w = .ok (.value (.float .f64 (intg .up b))) w := by
  rw [run_callFunc_extern (P := Tryd.prog) (f := 92) (fn := Tryd.f92) (e := Extern.MathFloor.toIntegral "math.archCeil" .up) Tryd.func92 (by kernel_rfl) (by kernel_rfl) (by kernel_rfl) (by kernel_rfl) _ w, toInt_pure _ _ hb]
  rfl

theorem trunc_any {b : Nat} (hb : finF b = true) (w : World) : Calls Tryd.prog 69 #[.float .f64 b] w fun e w' => e = .returned (.float .f64 (intg .zero b)) ∧ w = w' := by
  have h := run_archTrunc hb
  generalize intg .zero b = x at h ⊢
  clear hb
  go_enter Tryd.func69, Tryd.ntmps69
  go_wp2_with fail
  go_ret
  exact ⟨rfl, rfl⟩

theorem floor_any {b : Nat} (hb : finF b = true) (w : World) : Calls Tryd.prog 81 #[.float .f64 b] w fun e w' => e = .returned (.float .f64 (intg .down b)) ∧ w = w' := by
  have h := run_archFloor hb
  generalize intg .down b = x at h ⊢
  clear hb
  go_enter Tryd.func81, Tryd.ntmps81
  go_wp2_with fail
  go_ret
  exact ⟨rfl, rfl⟩

theorem ceil_any {b : Nat} (hb : finF b = true) (w : World) : Calls Tryd.prog 82 #[.float .f64 b] w fun e w' => e = .returned (.float .f64 (intg .up b)) ∧ w = w' := by
  have h := run_archCeil hb
  generalize intg .up b = x at h ⊢
  clear hb
  go_enter Tryd.func82, Tryd.ntmps82
  go_wp2_with fail
  go_ret
  exact ⟨rfl, rfl⟩

/-- A float's whole part as an integer, in range. -/
theorem run_whole {b : Nat} (hb : finF b = true) (hr : -9223372036854775808 ≤ ftrunc b ∧ ftrunc b ≤ 9223372036854775807) (w : World) :
    (convert 24 2 (.float .f64 b)).run Tryd.prog w = .ok (.int .i64 (ftrunc b)) w := by
  refine run_convert_float_int (P := Tryd.prog) w 24 2 .f64 .i64 b (ftrunc b) (by kernel_rfl) Tryd.underlying2 ?_
  unfold floatToIntVal
  have e : (FloatKind.f64.decode b).toInt .zero = some (ftrunc b) := toInt_fin (finF_fin.1 hb)
  rw [e]
  exact if_pos hr

theorem ord_tests {a b : Nat} {o : Option Ordering} (h : Ieee.double.order a b = o) : FloatKind.f64.format.order a b = o := h

theorem exV_nan {f : Nat} (h : nanF f = true) (n : Int) : exV f n = 2 := by
  unfold nanF at h
  unfold exV
  rw [if_pos (of_decide_eq_true h)]

/-- How an infinity stands to a constant. -/
theorem order_inf {f c : Nat} (h : f % 9223372036854775808 = 9218868437227405312) (hc : fin c) : Ieee.double.order f c = some (if sgn f then .lt else .gt) := by
  obtain ⟨m, p, i, r1, _⟩ := read_fin hc
  have e1 : Ieee.double.signWeight = 9223372036854775808 := by decide
  have e2 : Ieee.double.binade = 4503599627370496 := by decide
  have e3 : Ieee.double.infRung = 9218868437227405312 := by decide
  have hr : Ieee.double.read f = .infinity (sgn f) := by
    unfold Ieee.Format.read
    rw [e1, e2, e3]
    dsimp only
    rw [h, if_neg (by decide), if_neg (by decide), if_pos rfl]
    rfl
  unfold Ieee.Format.order
  rw [hr, r1]
  cases sgn f <;> rfl

set_option maxHeartbeats 1000000 in
theorem pexact_cmp (f : Nat) (n : Int) (hn : -9223372036854775808 ≤ n ∧ n ≤ 9223372036854775807) (w : World) : Calls Tryd.prog 40 #[.float .f64 f, .int .i64 n] w fun e w' => e = .returned (.int .i64 (exV f n)) ∧ w = w' := by
  cases hnan : nanF f
  · have HN := fun w => isNaN_any f w
    rw [hnan] at HN
    have HNA := Lib.hid HN
    clear HN
    by_cases hinf : f % 9223372036854775808 = 9218868437227405312
    · have hv : exV f n = if sgn f then -1 else 1 := by
        unfold exV
        rw [if_neg (by omega), if_pos hinf]
      have o1 := ord_tests (order_inf hinf val63.1)
      have o2 := ord_tests (order_inf hinf valm63.1)
      rw [hv]
      generalize sgn f = s at o1 o2
      clear hv hinf hnan hn
      cases s
      all_goals simp only [Bool.false_eq_true, if_false, if_true] at o1 o2 ⊢
      all_goals
        go_enter Tryd.func40, Tryd.ntmps40
        go_wp2_with (first
          | (go_at_call 56; (with_reducible refine (HNA.out _).mono ?_); rintro e wa ⟨rfl, rfl⟩)
          | fail)
        go_ret
        exact ⟨rfl, rfl⟩
    · have hfin : fin f := by
        unfold nanF at hnan
        have := of_decide_eq_false hnan
        unfold fin
        omega
      have hF : finF f = true := finF_fin.2 hfin
      by_cases h1 : 9223372036854775808 * (unit : Int) ≤ fval f
      · have hv : exV f n = 1 := by
          rw [exV_fin hfin]
          have := (mul_unit_lt (a := n) (b := 9223372036854775808)).2 (by omega)
          unfold cmpI
          rw [if_neg (by omega), if_pos (by omega)]
        have o1 : (FloatKind.f64.format.order f 4890909195324358656 == some .gt || FloatKind.f64.format.order f 4890909195324358656 == some .eq) = true := by
          by_cases h : 9223372036854775808 * (unit : Int) = fval f
          · rw [ord_tests (order_eq hfin val63.1 (by rw [val63.2]; exact h.symm))]; rfl
          · rw [ord_tests (order_gt hfin val63.1 (by rw [val63.2]; omega))]; rfl
        rw [hv]
        clear hv h1 hF hfin hinf hnan hn
        go_enter Tryd.func40, Tryd.ntmps40
        go_wp2_with (first
          | (go_at_call 56; (with_reducible refine (HNA.out _).mono ?_); rintro e wa ⟨rfl, rfl⟩)
          | fail)
        all_goals go_ret
        all_goals exact ⟨rfl, rfl⟩
      · have o1 := ord_tests (order_lt hfin val63.1 (by rw [val63.2]; omega))
        by_cases h2 : fval f < -9223372036854775808 * (unit : Int)
        · have hv : exV f n = -1 := by
            rw [exV_fin hfin]
            have : -9223372036854775808 * (unit : Int) ≤ n * (unit : Int) := Int.mul_le_mul_of_nonneg_right (by omega) (Int.le_of_lt unitI_pos)
            unfold cmpI
            rw [if_pos (by omega)]
          have o2 := ord_tests (order_lt hfin valm63.1 (by rw [valm63.2]; exact h2))
          rw [hv]
          clear hv h1 h2 hF hfin hinf hnan hn
          go_enter Tryd.func40, Tryd.ntmps40
          go_wp2_with (first
            | (go_at_call 56; (with_reducible refine (HNA.out _).mono ?_); rintro e wa ⟨rfl, rfl⟩)
            | fail)
          go_ret
          exact ⟨rfl, rfl⟩
        · have o2 : (FloatKind.f64.format.order f 14114281232179134464 == some .lt) = false := by
            by_cases h : fval f = -9223372036854775808 * (unit : Int)
            · rw [ord_tests (order_eq hfin valm63.1 (by rw [valm63.2]; exact h))]; rfl
            · rw [ord_tests (order_gt hfin valm63.1 (by rw [valm63.2]; omega))]; rfl
          have hr := trunc_range hfin (by omega) (by omega)
          have hT := fun w => trunc_any hF w
          obtain ⟨ti1, ti2, ti3⟩ := intg_val .zero (by decide) hfin
          rw [← ftrunc_eq] at ti2
          have htt : ftrunc (intg .zero f) = ftrunc f := trunc_whole ti2
          have hW := run_whole (finF_fin.2 ti1) (by rw [htt]; exact hr)
          rw [htt] at hW
          have hv := exV_trunc hfin n
          have oc : FloatKind.f64.format.order f (intg .zero f) = some (if fval f < ftrunc f * (unit : Int) then .lt else if ftrunc f * (unit : Int) < fval f then .gt else .eq) := by
            rw [← ti2, ← compare_int]
            exact ord_tests (order_fin hfin ti1)
          unfold cmpI at hv
          rw [hv]
          generalize intg .zero f = t at hT hW oc
          generalize ftrunc f * (unit : Int) = X at oc
          generalize ftrunc f = T at hW
          generalize fval f = F at oc
          have HT := Lib.hid hT
          clear hv hr ti1 ti2 ti3 htt h1 h2 hF hfin hinf hnan hn hT
          by_cases a : T < n
          · have d1 : decide (T < n) = true := decide_eq_true a
            rw [if_pos a]
            clear oc a
            go_enter Tryd.func40, Tryd.ntmps40
            go_wp2_with (first
              | (go_at_call 56; (with_reducible refine (HNA.out _).mono ?_); rintro e wa ⟨rfl, rfl⟩)
              | (go_at_call 69; (with_reducible refine (HT.out _).mono ?_); rintro e wa ⟨rfl, rfl⟩)
              | fail)
            go_ret
            exact ⟨rfl, rfl⟩
          · have d1 : decide (T < n) = false := decide_eq_false a
            rw [if_neg a]
            by_cases b : n < T
            · have d2 : decide (n < T) = true := decide_eq_true b
              rw [if_pos b]
              clear oc a b
              go_enter Tryd.func40, Tryd.ntmps40
              go_wp2_with (first
                | (go_at_call 56; (with_reducible refine (HNA.out _).mono ?_); rintro e wa ⟨rfl, rfl⟩)
                | (go_at_call 69; (with_reducible refine (HT.out _).mono ?_); rintro e wa ⟨rfl, rfl⟩)
                | fail)
              go_ret
              exact ⟨rfl, rfl⟩
            · have d2 : decide (n < T) = false := decide_eq_false b
              rw [if_neg b]
              clear a b
              by_cases c : F < X
              · rw [if_pos c] at oc ⊢
                clear c
                go_enter Tryd.func40, Tryd.ntmps40
                go_wp2_with (first
                  | (go_at_call 56; (with_reducible refine (HNA.out _).mono ?_); rintro e wa ⟨rfl, rfl⟩)
                  | (go_at_call 69; (with_reducible refine (HT.out _).mono ?_); rintro e wa ⟨rfl, rfl⟩)
                  | fail)
                go_ret
                exact ⟨rfl, rfl⟩
              · rw [if_neg c] at oc ⊢
                by_cases d : X < F
                · rw [if_pos d] at oc ⊢
                  clear c d
                  go_enter Tryd.func40, Tryd.ntmps40
                  go_wp2_with (first
                    | (go_at_call 56; (with_reducible refine (HNA.out _).mono ?_); rintro e wa ⟨rfl, rfl⟩)
                    | (go_at_call 69; (with_reducible refine (HT.out _).mono ?_); rintro e wa ⟨rfl, rfl⟩)
                    | fail)
                  go_ret
                  exact ⟨rfl, rfl⟩
                · rw [if_neg d] at oc ⊢
                  clear c d
                  go_enter Tryd.func40, Tryd.ntmps40
                  go_wp2_with (first
                    | (go_at_call 56; (with_reducible refine (HNA.out _).mono ?_); rintro e wa ⟨rfl, rfl⟩)
                    | (go_at_call 69; (with_reducible refine (HT.out _).mono ?_); rintro e wa ⟨rfl, rfl⟩)
                    | fail)
                  go_ret
                  exact ⟨rfl, rfl⟩
  · have HN := fun w => isNaN_any f w
    rw [hnan] at HN
    have HNA := Lib.hid HN
    rw [exV_nan hnan]
    clear HN hnan hn
    go_enter Tryd.func40, Tryd.ntmps40
    go_wp2_with (first
      | (go_at_call 56; (with_reducible refine (HNA.out _).mono ?_); rintro e wa ⟨rfl, rfl⟩)
      | fail)
    go_ret
    exact ⟨rfl, rfl⟩

end Go.Proofs.YtlpifchimnnfdaaDoor
