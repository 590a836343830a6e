/- NumWholes' walk: floors, ceilings, truncations, roundings lie where they must. -/
import Derived.Test.YtlpifchimnnfdaaDoorNmWhole
import Derived.Test.YtlpifchimnnfdaaDoorFltWays
import Derived.Test.YtlpifchimnnfdaaDoorNmKnown
namespace Go.Proofs.YtlpifchimnnfdaaDoor
open Go.RowKit Ieee
attribute [local irreducible] Ext
attribute [local go_sem] run_store_float

/-- A great float is a whole number. -/
theorem big_whole {b : Nat} (hb : fin b) (h : 9007199254740992 * unit ≤ siz b) : rest b = 0 := by
  rw [rest_zero_iff]
  obtain ⟨M, k, hM, hk, he⟩ := rep_form (rep_siz hb)
  by_cases hc : ex ≤ k
  · rw [he, mul_pow_ge M k hc, Nat.mul_mod_left]
  · exfalso
    have h1 : 2 ^ k ≤ unit := by rw [unit_eq]; exact Nat.pow_le_pow_right (by decide) (by omega)
    have h2 : M * 2 ^ k < 9007199254740992 * 2 ^ k := Nat.mul_lt_mul_of_pos_right hM (Nat.two_pow_pos k)
    have h3 : 9007199254740992 * 2 ^ k ≤ 9007199254740992 * unit := Nat.mul_le_mul_left _ h1
    omega

/-- Where a floor or a ceiling is out of range, the float is great. -/
theorem out_big {u : Nat} (hf : fin u) (h : ¬ (-576460752303423488 ≤ wholeI .down u ∧ wholeI .down u ≤ 576460752303423487) ∨ ¬ (-576460752303423488 ≤ wholeI .up u ∧ wholeI .up u ≤ 576460752303423487)) :
    576460752303423488 * (unit : Int) ≤ fval u ∨ fval u < -576460752303423488 * (unit : Int) := by
  have hw := ways u
  obtain ⟨f1, f2, f3, f4, f5, f6, f7, f8, f9, f10⟩ := hw.facts
  have key : ∀ a b : Int, a ≤ b → a * (unit : Int) ≤ b * (unit : Int) := fun a b h => Int.mul_le_mul_of_nonneg_right h (Int.le_of_lt unitI_pos)
  have key2 : ∀ a b : Int, a < b → a * (unit : Int) < b * (unit : Int) := fun a b h => mul_unit_lt.2 h
  by_cases hc : 576460752303423488 ≤ wholeI .up u
  · left
    by_cases hz : rest u = 0
    · have hv := hw.val
      have hh := hw.hi
      rw [hz] at hv hh
      rw [if_neg (by omega), Int.add_zero] at hh
      rw [Int.add_zero] at hv
      rw [hv, ← hh]
      exact key _ _ hc
    · exfalso
      have hlo : 576460752303423487 ≤ wholeI .down u := by omega
      have h1 := key _ _ hlo
      have h2 : 9007199254740992 * unit ≤ siz u := by
        have h3 : (9007199254740992 * (unit : Int)) ≤ fval u := by
          have := key 9007199254740992 576460752303423487 (by decide)
          omega
        rw [fval_siz] at h3
        have hp := unitI_pos
        split at h3
        · have : (0 : Int) ≤ (siz u : Int) := Int.natCast_nonneg _
          omega
        · have h4 : ((9007199254740992 * unit : Nat) : Int) ≤ ((siz u : Nat) : Int) := by rw [Int.natCast_mul]; exact h3
          exact Int.ofNat_le.1 h4
      exact hz (big_whole hf h2)
  · right
    have hlo : wholeI .down u < -576460752303423488 ∨ wholeI .up u < -576460752303423488 := by omega
    have hlo2 : wholeI .down u < -576460752303423488 := by omega
    rcases hlo with _ | h3
    · by_cases h4 : wholeI .up u < -576460752303423488
      · have := key2 _ _ h4
        omega
      · have h5 : wholeI .up u = -576460752303423488 := by omega
        have h6 : wholeI .down u ≠ wholeI .up u := by omega
        by_cases hz : rest u = 0
        · exfalso
          have h7 := hw.lo
          have h8 := hw.hi
          rw [hz, if_neg (by omega)] at h7 h8
          omega
        · have hv := hw.val
          have h7 := hw.lo
          have h8 := hw.hi
          rw [h5] at f7
          by_cases he : fval u = -576460752303423488 * (unit : Int)
          · exfalso
            have h9 : 9007199254740992 * unit ≤ siz u := by
              have h3 : fval u ≤ -(9007199254740992 * (unit : Int)) := by
                have := key 9007199254740992 576460752303423488 (by decide)
                rw [he, Int.neg_mul]
                omega
              rw [fval_siz] at h3
              have hp := unitI_pos
              split at h3
              · have h4 : ((9007199254740992 * unit : Nat) : Int) ≤ ((siz u : Nat) : Int) := by rw [Int.natCast_mul]; show 9007199254740992 * (unit : Int) ≤ _; omega
                exact Int.ofNat_le.1 h4
              · have : (0 : Int) ≤ (siz u : Int) := Int.natCast_nonneg _
                omega
            exact hz (big_whole hf h9)
          · omega
    · have := key2 _ _ h3
      omega

theorem size1_any {f : Nat} (hf : fin f) (w : World) : Calls Tryd.prog 38 #[.float .f64 f] w fun e w' => (∃ g, e = .returned (.float .f64 g) ∧ fin g ∧ fval g = (if fval f < 0 then -(fval f) else fval f)) ∧ w = w' := by
  have ho := order_tests' hf val0.1
  rw [val0.2] at ho
  by_cases h : fval f < 0
  · rw [if_pos h] at ho ⊢
    have hs := sub_fin val0.1 hf
    have hr : Rep (fval 0 - fval f).natAbs := by
      rw [val0.2, Int.zero_sub, Int.natAbs_neg]
      exact rep_fval hf
    obtain ⟨q1, q2, q3, _⟩ := fval_fput hr (sgn 0 && !sgn f)
    rw [val0.2, Int.zero_sub] at q1 q2 q3 hs
    have hrun := fun w => run_float_arith (P := Tryd.prog) w .sub 24 .f64 0 f _ hs
    generalize fput (-fval f) (sgn 0 && !sgn f) = g at q1 q3 hrun
    have HQ := Lib.hid (And.intro q3 q1)
    clear h hs hr q1 q2 q3 hf
    go_enter Tryd.func38, Tryd.ntmps38
    go_wp2_with fail
    go_ret
    exact ⟨⟨g, rfl, HQ.out.1, HQ.out.2⟩, rfl⟩
  · rw [if_neg h] at ho ⊢
    have o1 : (FloatKind.f64.format.order f 0 == some .lt) = false := by
      rw [ho]
      split <;> rfl
    have HF := Lib.hid hf
    clear ho h hf
    go_enter Tryd.func38, Tryd.ntmps38
    go_wp2_with fail
    go_ret
    exact ⟨⟨f, rfl, HF.out, rfl⟩, rfl⟩

theorem cmp_ge0 {a b : Int} (h : b ≤ a) : 0 ≤ cmpI a b := by
  unfold cmpI
  rw [if_neg (by omega)]
  split <;> omega

theorem cmp_le0 {a b : Int} (h : a ≤ b) : cmpI a b ≤ 0 := by
  unfold cmpI
  split
  · omega
  · rw [if_neg (by omega)]; omega

theorem cmp_eq0 {a b : Int} : cmpI a b = 0 ↔ a = b := by
  unfold cmpI
  constructor
  · intro h
    split at h
    · omega
    · split at h <;> omega
  · intro h
    rw [if_neg (by omega), if_neg (by omega)]

theorem size_ge {g : Nat} {F : Int} (hg : fin g) (hv : fval g = (if F < 0 then -F else F)) (h : 576460752303423488 * (unit : Int) ≤ F ∨ F < -576460752303423488 * (unit : Int)) :
    (FloatKind.f64.format.order g 4872894796814876672 == some .gt || FloatKind.f64.format.order g 4872894796814876672 == some .eq) = true := by
  have ho := order_tests' hg val59.1
  have hp := unitI_pos
  rw [val59.2] at ho
  have h1 : 576460752303423488 * (unit : Int) ≤ fval g := by
    rw [hv]
    rw [Int.neg_mul] at h
    split <;> omega
  rw [ho, if_neg (by omega)]
  split <;> rfl

set_option maxRecDepth 100000 in
set_option maxHeartbeats 20000000 in
theorem numWhs_any (u : Nat) (hu : u < 18446744073709551616) (w : World) (ht : Tab4 w) :
    Calls Tryd.prog 15 #[.int .u64 u] w fun e w' => e = .returned (.bool true) ∧ Ext w w' := by
  have HK := Lib.hid (known_any w ht)
  have hbu := fun w => pbits_any u hu w
  have HU := Lib.hid hu
  obtain ⟨xk, xf, xe, hx⟩ := mkF_form u
  rw [hx] at hbu
  unfold nV at hbu
  have HBU := Lib.hid hbu
  have HX := Lib.hid (Ext.refl w)
  clear hu ht hbu
  go_enter Tryd.func15, Tryd.ntmps15
  go_upto_region 3 with (first
    | (go_at_call 17; (with_reducible refine HK.out.mono ?_); rintro e w1 ⟨rfl, hE1⟩; have HX := Lib.hid hE1; clear hE1)
    | fail)
  go_upto_region 4 with (first
    | (go_at_call 24; (with_reducible refine (HBU.out _).mono ?_); rintro e v3 ⟨rfl, hE3⟩; have HE3 := Lib.hid hE3; clear hE3)
    | fail)
  obtain ⟨w3, B3, hw3, hB3, hs3, hx3, hR3⟩ := kbox HE3.out xk 0 xf
  rw [hw3, hB3]
  have HA := Lib.hid hR3
  have HX := Lib.hid (HX.out.trans hx3)
  clear hw3 hB3 hs3 hx3 hR3 HE3
  by_cases fu : finF u = true
  · unfold mkF at hx
    rw [if_pos fu] at hx
    obtain ⟨e1, e2, e3, e4⟩ := nV_eq hx
    subst e1 e3 e4
    have hfin := finF_fin.1 fu
    have hlo := fun w => pwhole_2 ⟨#[102, 108, 111, 111, 114]⟩ (by kernel_rfl) 2 0 u ⟨#[]⟩ none 0 0 HU.out w
    have hhi := fun w => pwhole_3 ⟨#[99, 101, 105, 108]⟩ (by kernel_rfl) 2 0 u ⟨#[]⟩ none 0 0 HU.out w
    have htr := fun w => pwhole_0 ⟨#[116, 114, 117, 110, 99]⟩ (by kernel_rfl) 2 0 u ⟨#[]⟩ none 0 0 HU.out w
    have hrd := fun w => pwhole_1 ⟨#[114, 111, 117, 110, 100]⟩ (by kernel_rfl) 2 0 u ⟨#[]⟩ none 0 0 HU.out w
    rw [numV_2 fu] at hlo hhi htr hrd
    have hw := ways u
    rw [show whV 2 2 0 u true = mkI (wholeI .down u) from rfl] at hlo
    rw [show whV 3 2 0 u true = mkI (wholeI .up u) from rfl] at hhi
    rw [show whV 0 2 0 u true = mkI (wholeI .zero u) from rfl] at htr
    rw [show whV 1 2 0 u true = mkI (roundI u) from rfl] at hrd
    have hob := fun h => out_big hfin h
    have hex := fun n (hn : -9223372036854775808 ≤ n ∧ n ≤ 9223372036854775807) w => pexact_cmp u n hn w
    have hex2 := fun n => exV_fin hfin n
    have hng := fun w => pneg_any 2 0 u ⟨#[]⟩ none 0 0 HU.out w
    rw [numV_2 fu, show negV 2 0 u true = nV 2 0 (xneg u) 0 from (show negV 2 0 u true = mkF (xneg u) from rfl).trans (mkF_fin (xneg_fin HU.out fu))] at hng
    have hfl := fun w => pwhole_2 ⟨#[102, 108, 111, 111, 114]⟩ (by kernel_rfl) 2 0 (xneg u) ⟨#[]⟩ none 0 0 (xneg_lt HU.out) w
    rw [numV_2 (xneg_fin HU.out fu), show whV 2 2 0 (xneg u) true = mkI (wholeI .down (xneg u)) from rfl, xneg_eq HU.out, neg_floor, ← xneg_eq HU.out] at hfl
    have hor := order_tests' hfin val0.1
    rw [val0.2] at hor
    have hs1 := fun w => size1_any hfin w
    have hfa := hw.facts
    generalize xneg u = nu at hng hfl
    generalize wholeI .down u = lo at hlo hfa hob
    generalize wholeI .up u = hi at hhi hfa hob hfl
    generalize wholeI .zero u = t at htr hfa
    generalize roundI u = r at hrd hfa
    generalize fval u = F at hob hex2 hor hs1 hfa
    unfold nV at hng
    obtain ⟨lk, ln, le, hlk⟩ := mkI_form lo
    obtain ⟨hk, hn, he, hhk⟩ := mkI_form hi
    rw [hlk] at hlo
    rw [hhk] at hhi
    unfold nV at hlo hhi
    have HLO := Lib.hid hlo
    have HHI := Lib.hid hhi
    have HTR := Lib.hid htr
    have HRD := Lib.hid hrd
    have HNG := Lib.hid hng
    have HFL := Lib.hid hfl
    have HS1 := Lib.hid hs1
    have HEX := Lib.hid hex
    have HEV := Lib.hid hex2
    have HFA := Lib.hid hfa
    have HOB := Lib.hid hob
    have HOR := Lib.hid hor
    have HLK := Lib.hid (And.intro hlk hhk)
    clear hlo hhi htr hrd hng hfl hs1 hex hex2 hfa hob hor hlk hhk hw hx fu e2 hfin
    obtain ⟨a0, a1, a2, a3, a4⟩ := HA.out.cells
    go_upto_region 7 with (first
      | (go_at_call 53; (with_reducible refine (HLO.out _).mono ?_); rintro e v6 ⟨rfl, hE6⟩; have HE6 := Lib.hid hE6; clear hE6)
      | fail)
    obtain ⟨w6, B6, hw6, hB6, hs6, hx6, hR6⟩ := kbox HE6.out lk ln 0
    rw [hw6, hB6]
    have HA := Lib.hid (HA.out.ext hx6)
    have HL := Lib.hid hR6
    have HX := Lib.hid (HX.out.trans hx6)
    clear hw6 hB6 hs6 hx6 hR6 HE6
    clear a0 a1 a2 a3 a4
    obtain ⟨a0, a1, a2, a3, a4⟩ := HA.out.cells
    go_upto_region 8 with (first
      | (go_at_call 53; (with_reducible refine (HHI.out _).mono ?_); rintro e v7 ⟨rfl, hE7⟩; have HE7 := Lib.hid hE7; clear hE7)
      | fail)
    obtain ⟨w7, B7, hw7, hB7, hs7, hx7, hR7⟩ := kbox HE7.out hk hn 0
    rw [hw7, hB7]
    have HA := Lib.hid (HA.out.ext hx7)
    have HL := Lib.hid (HL.out.ext hx7)
    have HH := Lib.hid hR7
    have HX := Lib.hid (HX.out.trans hx7)
    clear hw7 hB7 hs7 hx7 hR7 HE7
    clear a0 a1 a2 a3 a4
    obtain ⟨a0, a1, a2, a3, a4⟩ := HA.out.cells
    by_cases hin : (-576460752303423488 ≤ lo ∧ lo ≤ 576460752303423487) ∧ (-576460752303423488 ≤ hi ∧ hi ≤ 576460752303423487)
    · obtain ⟨hin1, hin2⟩ := hin
      have hlk := HLK.out.1
      have hhk := HLK.out.2
      rw [mkI_in' hin1] at hlk
      rw [mkI_in' hin2] at hhk
      obtain ⟨e1, e2, _, e4⟩ := nV_eq hlk
      obtain ⟨f1, f2, _, f4⟩ := nV_eq hhk
      subst e1 e2 e4 f1 f2 f4
      obtain ⟨k1, k2, k3, k4, k5, k6, k7, k8, k9, k10⟩ := HFA.out
      have htr := HTR.out
      have hrd := HRD.out
      rw [mkI_in' ⟨by omega, by omega⟩] at htr
      rw [mkI_in' ⟨by rcases k5 with h | h <;> omega, by rcases k5 with h | h <;> omega⟩] at hrd
      unfold nV at htr hrd
      have HTR := Lib.hid htr
      have HRD := Lib.hid hrd
      have d1 : decide (hi < lo) = false := decide_eq_false (by omega)
      have d2 : decide (1 < hi - lo) = false := decide_eq_false (by omega)
      have d3 : decide (t < lo) = false := decide_eq_false (by omega)
      have d4 : decide (hi < t) = false := decide_eq_false (by omega)
      have w1 : IntKind.i64.wrap (hi - lo) = hi - lo := IntWalk.i64_in _ (by omega)
      have w2 : IntKind.i64.wrap (-hi) = -hi := IntWalk.i64_in _ (by omega)
      have w3 : IntKind.i64.wrap (0 - hi) = -hi := by rw [Int.zero_sub]; exact w2
      have HR64 := Lib.hid (And.intro (show -9223372036854775808 ≤ lo ∧ lo ≤ 9223372036854775807 by omega) (show -9223372036854775808 ≤ hi ∧ hi ≤ 9223372036854775807 by omega))
      have HK5 := Lib.hid k5
      have HKV := Lib.hid (And.intro k6 (And.intro k7 (And.intro k8 (And.intro k9 k10))))
      have HINR := Lib.hid hin2
      clear k1 k2 k3 k4 k5 k6 k7 k8 k9 k10 htr hrd hlk hhk hin1 hin2
      go_upto_region 11 with (first
        | (go_at_call 53; (with_reducible refine (HTR.out _).mono ?_); rintro e v10 ⟨rfl, hE10⟩; have HE10 := Lib.hid hE10; clear hE10)
        | fail)
      obtain ⟨w10, B10, hw10, hB10, hs10, hx10, hR10⟩ := kbox HE10.out 1 t 0
      rw [hw10, hB10]
      have HA := Lib.hid (HA.out.ext hx10)
      have HL := Lib.hid (HL.out.ext hx10)
      have HH := Lib.hid (HH.out.ext hx10)
      have HT := Lib.hid hR10
      have HX := Lib.hid (HX.out.trans hx10)
      clear hw10 hB10 hs10 hx10 hR10 HE10
      clear a0 a1 a2 a3 a4
      obtain ⟨a0, a1, a2, a3, a4⟩ := HA.out.cells
      go_upto_region 12 with (first
        | (go_at_call 53; (with_reducible refine (HRD.out _).mono ?_); rintro e v11 ⟨rfl, hE11⟩; have HE11 := Lib.hid hE11; clear hE11)
        | fail)
      obtain ⟨w11, B11, hw11, hB11, hs11, hx11, hR11⟩ := kbox HE11.out 1 r 0
      rw [hw11, hB11]
      have HA := Lib.hid (HA.out.ext hx11)
      have HL := Lib.hid (HL.out.ext hx11)
      have HH := Lib.hid (HH.out.ext hx11)
      have HT := Lib.hid (HT.out.ext hx11)
      have HRO := Lib.hid hR11
      have HX := Lib.hid (HX.out.trans hx11)
      clear hw11 hB11 hs11 hx11 hR11 HE11
      clear a0 a1 a2 a3 a4
      obtain ⟨a0, a1, a2, a3, a4⟩ := HA.out.cells
      go_cut [100] from 52 to 99 (fun xx wx => xx = .bool false ∧ w11 = wx)
      case first =>
        obtain ⟨l0, l1, l2, l3, l4⟩ := HL.out.cells
        obtain ⟨h0, h1, h2, h3, h4⟩ := HH.out.cells
        obtain ⟨t0, t1, t2, t3, t4⟩ := HT.out.cells
        obtain ⟨r0, r1, r2, r3, r4⟩ := HRO.out.cells
        clear a0 a1 a2 a3 a4
        by_cases c : r = lo
        · have d5 : (r != lo) = false := by rw [c]; simp
          clear c
          go_wp2_with fail
          go_meet
          exact ⟨rfl, rfl⟩
        · have d5 : (r != lo) = true := by simpa using c
          have d6 : (r != hi) = false := by
            rcases HK5.out with h | h
            · exact absurd h c
            · rw [h]; simp
          clear c
          go_wp2_with fail
          go_meet
          exact ⟨rfl, rfl⟩
      case rest =>
        obtain ⟨rfl, rfl⟩ := hcut
        go_upto_region 14 with (fail)
        obtain ⟨v1, hv1⟩ : ∃ v, exV u lo = v := ⟨_, rfl⟩
        obtain ⟨v2, hv2⟩ : ∃ v, exV u hi = v := ⟨_, rfl⟩
        have hq1 := fun w => HEX.out lo HR64.out.1 w
        have hq2 := fun w => HEX.out hi HR64.out.2 w
        rw [hv1] at hq1
        rw [hv2] at hq2
        have HQ1 := Lib.hid hq1
        have HQ2 := Lib.hid hq2
        have hz1 := HEV.out lo
        have hz2 := HEV.out hi
        rw [hv1] at hz1
        rw [hv2] at hz2
        obtain ⟨k6, k7, k8, k9, k10⟩ := HKV.out
        have d7 : decide (v1 < 0) = false := decide_eq_false (by have := cmp_ge0 k6; omega)
        have d8 : decide (0 < v2) = false := decide_eq_false (by have := cmp_le0 k7; omega)
        obtain ⟨p, hp⟩ : ∃ p, (lo == hi) = p := ⟨_, rfl⟩
        have d9 : (v1 == 0) = p := by
          rw [← hp, hz1, Bool.eq_iff_iff, beq_iff_eq, beq_iff_eq, k8]
          exact cmp_eq0
        have d10 : (p != p) = false := by simp
        clear hq1 hq2 hz1 hz2 hv1 hv2 k6 k7 k8 k9 k10 a0 a1 a2 a3 a4
        go_cut [128] from 101 to 127 (fun xx wx => xx = .bool false ∧ Hid (Ext w11 wx))
        case first =>
          obtain ⟨a0, a1, a2, a3, a4⟩ := HA.out.exts
          obtain ⟨l0, l1, l2, l3, l4⟩ := HL.out.exts
          obtain ⟨h0, h1, h2, h3, h4⟩ := HH.out.exts
          have hE0 := Ext.refl w11
          go_region_held3 (fun w' => Ext w11 w') (repeat (first | assumption | apply Ext.drew | apply Ext.alloc))
            (first
              | (go_at_call 40; (with_reducible first | refine (HQ1.out _).mono ?_ | refine (HQ2.out _).mono ?_); rintro e wa ⟨rfl, rfl⟩)
              | fail)
          all_goals go_wp2
          all_goals go_meet
          all_goals exact ⟨rfl, Lib.hid (by first | assumption | exact (Ext.refl _).drew)⟩
        case rest =>
          obtain ⟨rfl, HW12⟩ := hcut
          rename World => w12
          have HX := Lib.hid (HX.out.trans HW12.out)
          have HA := Lib.hid (HA.out.ext HW12.out)
          have HL := Lib.hid (HL.out.ext HW12.out)
          have HH := Lib.hid (HH.out.ext HW12.out)
          have HT := Lib.hid (HT.out.ext HW12.out)
          go_upto_region 16 with (fail)
          go_cut [150] from 129 to 149 (fun xx wx => xx = .bool false ∧ w12 = wx)
          case first =>
            obtain ⟨a0, a1, a2, a3, a4⟩ := HA.out.cells
            obtain ⟨l0, l1, l2, l3, l4⟩ := HL.out.cells
            obtain ⟨h0, h1, h2, h3, h4⟩ := HH.out.cells
            obtain ⟨t0, t1, t2, t3, t4⟩ := HT.out.cells
            have ho := HOR.out
            obtain ⟨_, _, _, k9, k10⟩ := HKV.out
            by_cases c : F < 0
            · have o1 : FloatKind.f64.format.order u 0 = some .lt := by rw [ho, if_pos c]
              have d11 : (t != hi) = false := by rw [k10 c]; simp
              clear ho k9 k10 c
              go_wp2_with fail
              go_meet
              exact ⟨rfl, rfl⟩
            · have o1 : (FloatKind.f64.format.order u 0 == some .gt || FloatKind.f64.format.order u 0 == some .eq) = true := by
                rw [ho, if_neg c]
                split <;> rfl
              have o2 : (FloatKind.f64.format.order u 0 == some .lt) = false := by
                rw [ho, if_neg c]
                split <;> rfl
              have d11 : (t != lo) = false := by rw [k9 (by omega)]; simp
              clear ho k9 k10 c
              go_wp2_with fail
              all_goals go_meet
              all_goals exact ⟨rfl, rfl⟩
          case rest =>
            obtain ⟨rfl, rfl⟩ := hcut
            obtain ⟨a0, a1, a2, a3, a4⟩ := HA.out.cells
            go_upto_region 19 with (first
              | (go_at_call 35; (with_reducible refine (HNG.out _).mono ?_); rintro e v18 ⟨rfl, hE18⟩; have HE18 := Lib.hid hE18; clear hE18)
              | fail)
            obtain ⟨w18, B18, hw18, hB18, hs18, hx18, hR18⟩ := kbox HE18.out 2 0 nu
            rw [hw18, hB18]
            have HA := Lib.hid (HA.out.ext hx18)
            have HL := Lib.hid (HL.out.ext hx18)
            have HH := Lib.hid (HH.out.ext hx18)
            have HT := Lib.hid (HT.out.ext hx18)
            have HN := Lib.hid hR18
            have HX := Lib.hid (HX.out.trans hx18)
            clear hw18 hB18 hs18 hx18 hR18 HE18
            clear a0 a1 a2 a3 a4
            obtain ⟨b0, b1, b2, b3, b4⟩ := HN.out.cells
            obtain ⟨zk, zn, ze, hzk⟩ := mkI_form (-hi)
            have hfl := HFL.out
            rw [hzk] at hfl
            unfold nV at hfl
            have HFL := Lib.hid hfl
            have HZK := Lib.hid hzk
            clear hfl hzk
            go_upto_region 22 with (first
              | (go_at_call 53; (with_reducible refine (HFL.out _).mono ?_); rintro e v21 ⟨rfl, hE21⟩; have HE21 := Lib.hid hE21; clear hE21)
              | fail)
            obtain ⟨w21, B21, hw21, hB21, hs21, hx21, hR21⟩ := kbox HE21.out zk zn 0
            rw [hw21, hB21]
            have HA := Lib.hid (HA.out.ext hx21)
            have HL := Lib.hid (HL.out.ext hx21)
            have HH := Lib.hid (HH.out.ext hx21)
            have HT := Lib.hid (HT.out.ext hx21)
            have HZ := Lib.hid hR21
            have HX := Lib.hid (HX.out.trans hx21)
            clear hw21 hB21 hs21 hx21 hR21 HE21
            clear b0 b1 b2 b3 b4
            obtain ⟨y0, y1, y2, y3, y4⟩ := HZ.out.cells
            obtain ⟨h0, h1, h2, h3, h4⟩ := HH.out.cells
            by_cases c : -hi ≤ 576460752303423487
            · have hzk := HZK.out
              rw [mkI_in' ⟨by have := of_decide_eq_false d1; have := HINR.out; omega, c⟩] at hzk
              obtain ⟨e1, e2, _, e4⟩ := nV_eq hzk
              subst e1 e2 e4
              clear c hzk
              go_wp2_with fail
              go_ret
              exact ⟨by simp, HX.out⟩
            · have hzk := HZK.out
              unfold mkI at hzk
              rw [if_neg (by omega)] at hzk
              obtain ⟨e1, e2, _, e4⟩ := nV_eq hzk
              subst e1 e2 e4
              clear c hzk
              go_wp2_with fail
              go_ret
              exact ⟨rfl, HX.out⟩
    · have hbig := HOB.out (by
        by_cases h : -576460752303423488 ≤ lo ∧ lo ≤ 576460752303423487
        · exact .inr (fun h2 => hin ⟨h, h2⟩)
        · exact .inl h)
      have HBIG := Lib.hid hbig
      have hlk := HLK.out.1
      have hhk := HLK.out.2
      by_cases hl : -576460752303423488 ≤ lo ∧ lo ≤ 576460752303423487
      · have hh : ¬ (-576460752303423488 ≤ hi ∧ hi ≤ 576460752303423487) := fun h2 => hin ⟨hl, h2⟩
        rw [mkI_in' hl] at hlk
        unfold mkI at hhk
        rw [if_neg hh] at hhk
        obtain ⟨e1, e2, _, e4⟩ := nV_eq hlk
        obtain ⟨f1, f2, _, f4⟩ := nV_eq hhk
        subst e1 e2 e4 f1 f2 f4
        clear hl hh hlk hhk hin hbig
        go_wp2_with (first
          | (go_at_call 38; (with_reducible refine (HS1.out _).mono ?_); rintro e wa ⟨⟨g, rfl, hg1, hg2⟩, rfl⟩; have o1 := size_ge hg1 hg2 HBIG.out; clear hg1 hg2)
          | fail)
        all_goals go_ret
        all_goals exact ⟨by simp, HX.out⟩
      · unfold mkI at hlk
        rw [if_neg hl] at hlk
        obtain ⟨e1, e2, _, e4⟩ := nV_eq hlk
        subst e1 e2 e4
        clear hl hlk hhk hin hbig
        go_wp2_with (first
          | (go_at_call 38; (with_reducible refine (HS1.out _).mono ?_); rintro e wa ⟨⟨g, rfl, hg1, hg2⟩, rfl⟩; have o1 := size_ge hg1 hg2 HBIG.out; clear hg1 hg2)
          | fail)
        all_goals go_ret
        all_goals exact ⟨by simp, HX.out⟩

  · unfold mkF at hx
    rw [if_neg fu] at hx
    obtain ⟨e1, e2, e3, e4⟩ := nV_eq hx
    subst e1 e3 e4
    clear hx fu e2
    go_wp2_with fail
    go_ret
    exact ⟨rfl, HX.out⟩

end Go.Proofs.YtlpifchimnnfdaaDoor
