/- Numbers: a float against a whole number, as the document has it; NumExact's walk. -/
import Derived.Test.YtlpifchimnnfdaaDoorNmTrunc
import Derived.Test.YtlpifchimnnfdaaDoorNmKnown
namespace Go.Proofs.YtlpifchimnnfdaaDoor
open Go.RowKit Ieee
attribute [local irreducible] Ext
attribute [local go_sem] run_store_float

theorem order_self_neq (b : Nat) : (FloatKind.f64.format.order b b != some .eq) = nanF b := order_self b

set_option maxHeartbeats 1000000 in
theorem rexact_cmp (f : Nat) (n : Int) (hn : -9223372036854775808 ≤ n ∧ n ≤ 9223372036854775807) (w : World) : Calls Tryd.prog 41 #[.float .f64 f, .int .i64 n] w fun e w' => e = .returned (.int .i64 (exV f n)) ∧ w = w' := by
  have hself := order_self_neq f
  cases hnan : nanF f
  · rw [hnan] at hself
    by_cases hinf : f % 9223372036854775808 = 9218868437227405312
    · have hv : exV f n = if sgn f then -1 else 1 := by
        unfold exV
        rw [if_neg (by omega), if_pos hinf]
      have o1 := ord_tests (order_inf hinf val63.1)
      have o2 := ord_tests (order_inf hinf valm63.1)
      rw [hv]
      generalize sgn f = s at o1 o2
      clear hv hinf hnan hn
      cases s
      all_goals simp only [Bool.false_eq_true, if_false, if_true] at o1 o2 ⊢
      all_goals
        go_enter Tryd.func41, Tryd.ntmps41
        go_wp2_with fail
        all_goals go_ret
        all_goals exact ⟨rfl, rfl⟩
    · have hfin : fin f := by
        unfold nanF at hnan
        have := of_decide_eq_false hnan
        unfold fin
        omega
      have hF : finF f = true := finF_fin.2 hfin
      by_cases h1 : 9223372036854775808 * (unit : Int) ≤ fval f
      · have hv : exV f n = 1 := by
          rw [exV_fin hfin]
          have := (mul_unit_lt (a := n) (b := 9223372036854775808)).2 (by omega)
          unfold cmpI
          rw [if_neg (by omega), if_pos (by omega)]
        have o1 : (FloatKind.f64.format.order f 4890909195324358656 == some .gt || FloatKind.f64.format.order f 4890909195324358656 == some .eq) = true := by
          by_cases h : 9223372036854775808 * (unit : Int) = fval f
          · rw [ord_tests (order_eq hfin val63.1 (by rw [val63.2]; exact h.symm))]; rfl
          · rw [ord_tests (order_gt hfin val63.1 (by rw [val63.2]; omega))]; rfl
        rw [hv]
        clear hv h1 hF hfin hinf hnan hn
        go_enter Tryd.func41, Tryd.ntmps41
        go_wp2_with fail
        all_goals go_ret
        all_goals exact ⟨rfl, rfl⟩
      · have o1 := ord_tests (order_lt hfin val63.1 (by rw [val63.2]; omega))
        by_cases h2 : fval f < -9223372036854775808 * (unit : Int)
        · have hv : exV f n = -1 := by
            rw [exV_fin hfin]
            have : -9223372036854775808 * (unit : Int) ≤ n * (unit : Int) := Int.mul_le_mul_of_nonneg_right (by omega) (Int.le_of_lt unitI_pos)
            unfold cmpI
            rw [if_pos (by omega)]
          have o2 := ord_tests (order_lt hfin valm63.1 (by rw [valm63.2]; exact h2))
          rw [hv]
          clear hv h1 h2 hF hfin hinf hnan hn
          go_enter Tryd.func41, Tryd.ntmps41
          go_wp2_with fail
          all_goals go_ret
          all_goals exact ⟨rfl, rfl⟩
        · have o2 : (FloatKind.f64.format.order f 14114281232179134464 == some .lt) = false := by
            by_cases h : fval f = -9223372036854775808 * (unit : Int)
            · rw [ord_tests (order_eq hfin valm63.1 (by rw [valm63.2]; exact h))]; rfl
            · rw [ord_tests (order_gt hfin valm63.1 (by rw [valm63.2]; omega))]; rfl
          have hr := trunc_range hfin (by omega) (by omega)
          have hW := run_whole hF hr
          have hv := exV_trunc hfin n
          obtain ⟨nf, nv⟩ := near_trunc hfin
          obtain ⟨p, hp, pf, p64, pv⟩ := rest_val hfin nf nv
          have hS := fun w => run_float_arith (P := Tryd.prog) w .sub 24 .f64 f (nearF (ftrunc f)) p hp
          have hN := nearF_eq (ftrunc f)
          have oc : FloatKind.f64.format.order p 0 = some (if fval f < ftrunc f * (unit : Int) then .lt else if ftrunc f * (unit : Int) < fval f then .gt else .eq) := by
            have hc := order_fin pf val0.1
            rw [val0.2, compare_int] at hc
            rw [ord_tests hc]
            have ht := trunc_parts (b := f)
            rw [← pv] at ht
            congr 1
            by_cases a : fval p < 0
            · rw [if_pos a, if_pos (show fval f < ftrunc f * (unit : Int) by omega)]
            · by_cases b : 0 < fval p
              · rw [if_neg a, if_pos b, if_neg (show ¬ fval f < ftrunc f * (unit : Int) by omega), if_pos (show ftrunc f * (unit : Int) < fval f by omega)]
              · rw [if_neg a, if_neg b, if_neg (show ¬ fval f < ftrunc f * (unit : Int) by omega), if_neg (show ¬ ftrunc f * (unit : Int) < fval f by omega)]
          have hS2 : ∀ w, (binOp .sub 24 (.float .f64 f) (.float .f64 (floatOfInt .f64 (ftrunc f)))).run Tryd.prog w = .ok (.float .f64 p) w := by
            intro w
            unfold floatOfInt
            rw [hN]
            exact hS w
          unfold cmpI at hv
          rw [hv]
          generalize ftrunc f * (unit : Int) = X at oc
          generalize ftrunc f = T at hW hS2
          generalize fval f = F at oc
          clear hv hr h1 h2 hF hfin hinf hnan hn nf nv hp pf p64 pv hS hN
          by_cases a : T < n
          · have d1 : decide (T < n) = true := decide_eq_true a
            have d0 : (T != n) = true := by simp; omega
            rw [if_pos a]
            clear oc a
            go_enter Tryd.func41, Tryd.ntmps41
            go_wp2_with fail
            all_goals go_ret
            all_goals exact ⟨rfl, rfl⟩
          · have d1 : decide (T < n) = false := decide_eq_false a
            rw [if_neg a]
            by_cases b : n < T
            · have d0 : (T != n) = true := by simp; omega
              rw [if_pos b]
              clear oc a b
              go_enter Tryd.func41, Tryd.ntmps41
              go_wp2_with fail
              all_goals go_ret
              all_goals exact ⟨rfl, rfl⟩
            · rw [if_neg b]
              have d0 : (T != n) = false := by simp; omega
              clear a b
              by_cases c : F < X
              · rw [if_pos c] at oc ⊢
                clear c
                go_enter Tryd.func41, Tryd.ntmps41
                go_wp2_with fail
                all_goals go_ret
                all_goals exact ⟨rfl, rfl⟩
              · rw [if_neg c] at oc ⊢
                by_cases d : X < F
                · rw [if_pos d] at oc ⊢
                  clear c d
                  go_enter Tryd.func41, Tryd.ntmps41
                  go_wp2_with fail
                  all_goals go_ret
                  all_goals exact ⟨rfl, rfl⟩
                · rw [if_neg d] at oc ⊢
                  clear c d
                  go_enter Tryd.func41, Tryd.ntmps41
                  go_wp2_with fail
                  all_goals go_ret
                  all_goals exact ⟨rfl, rfl⟩
  · rw [hnan] at hself
    rw [exV_nan hnan]
    clear hnan hn
    go_enter Tryd.func41, Tryd.ntmps41
    go_wp2_with fail
    all_goals go_ret
    all_goals exact ⟨rfl, rfl⟩

set_option maxHeartbeats 1000000 in
theorem numExact_any (n : Int) (u : Nat) (hn : -9223372036854775808 ≤ n ∧ n ≤ 9223372036854775807) (_ : u < 18446744073709551616) (w : World) (ht : Tab4 w) :
    Calls Tryd.prog 10 #[.int .i64 n, .int .u64 u] w fun e w' => e = .returned (.bool true) ∧ Ext w w' := by
  have HK := Lib.hid (known_any w ht)
  have HPN := Lib.hid (fun w => pnear_any n w)
  have HRN := Lib.hid (fun w => rnear_any n hn w)
  have HPE := Lib.hid (fun f w => pexact_cmp f n hn w)
  have HRE := Lib.hid (fun f w => rexact_cmp f n hn w)
  have hfu := run_frombits u
  have hb := run_bits (nearF n)
  generalize nearF n = x at HPN HRN hb
  clear hn ht
  go_enter Tryd.func10, Tryd.ntmps10
  go_wp2_with (first
    | (go_at_call 17; (with_reducible refine HK.out.mono ?_); rintro e w1 ⟨rfl, hE1⟩; have HE := Lib.hid hE1; clear hE1)
    | (go_at_call 36; (with_reducible refine (HPN.out _).mono ?_); rintro e wa ⟨rfl, rfl⟩)
    | (go_at_call 39; (with_reducible refine (HRN.out _).mono ?_); rintro e wa ⟨rfl, rfl⟩)
    | (go_at_call 40; (with_reducible refine (HPE.out _ _).mono ?_); rintro e wa ⟨rfl, rfl⟩)
    | (go_at_call 41; (with_reducible refine (HRE.out _ _).mono ?_); rintro e wa ⟨rfl, rfl⟩)
    | fail)
  go_ret
  exact ⟨rfl, HE.out⟩

end Go.Proofs.YtlpifchimnnfdaaDoor
