/- NumZeros' walk: the two zeros. -/
import Derived.Test.YtlpifchimnnfdaaDoorNmCmp
import Derived.Test.YtlpifchimnnfdaaDoorNmAbs
namespace Go.Proofs.YtlpifchimnnfdaaDoor
open Go.RowKit Ieee
attribute [local irreducible] Ext
attribute [local go_sem] run_store_float

theorem zero_num : numV 2 0 0 ⟨#[]⟩ 0 = true := by kernel_rfl
theorem mzero_num : numV 2 0 9223372036854775808 ⟨#[]⟩ 0 = true := by kernel_rfl
theorem izero_num : numV 1 0 0 ⟨#[]⟩ 0 = true := by kernel_rfl

theorem num_zero : numVal 2 0 0 = 0 ∧ numVal 2 0 9223372036854775808 = 0 ∧ numVal 1 0 0 = 0 := ⟨val0.2, valm0.2, Int.zero_mul _⟩

theorem zcmp (k n : Int) (f : Nat) (k' n' : Int) (f' : Nat) (h1 : numV k n f ⟨#[]⟩ 0 = true) (h2 : numV k' n' f' ⟨#[]⟩ 0 = true) (e1 : numVal k n f = 0) (e2 : numVal k' n' f' = 0) (w : World) :
    Calls Tryd.prog 43 #[tV k n f, tV k' n' f'] w fun e w' => e = .returned (.int .i64 0) ∧ Ext w w' := by
  have h := pcmp_any k n f ⟨#[]⟩ none 0 0 k' n' f' ⟨#[]⟩ none 0 0 h1 h2 w
  rw [e1, e2] at h
  exact h

theorem zsame (w : World) : Calls Tryd.prog 45 #[tV 2 0 0, tV 2 0 9223372036854775808] w fun e w' => e = .returned (.bool false) ∧ Ext w w' := by
  have h := psame_any 2 0 0 ⟨#[]⟩ none 0 0 2 0 9223372036854775808 ⟨#[]⟩ none 0 0 (by decide) (by decide) zero_num mzero_num w
  rw [show sameN 2 0 0 2 0 9223372036854775808 = false by kernel_rfl] at h
  exact h

theorem zop {sg : ByteArray} (hs : sgnB sg = true) {f f' : Nat} (h1 : numV 2 0 f ⟨#[]⟩ 0 = true) (h2 : numV 2 0 f' ⟨#[]⟩ 0 = true) (hf : f < 18446744073709551616) (hf' : f' < 18446744073709551616) {v : Value} (hv : opV sg 2 0 f true 2 0 f' true = v) (w : World) :
    Calls Tryd.prog 25 #[.string sg, tV 2 0 f, tV 2 0 f'] w fun e w' => e = .returned v ∧ Ext w w' := by
  have h := pop_good sg hs 2 0 f ⟨#[]⟩ none 0 0 2 0 f' ⟨#[]⟩ none 0 0 hf hf' w
  rw [h1, h2, hv] at h
  exact h

theorem zneg (w : World) : Calls Tryd.prog 35 #[tV 2 0 0] w fun e w' => e = .returned (nV 2 0 9223372036854775808 0) ∧ Ext w w' := by
  have h := pneg_any 2 0 0 ⟨#[]⟩ none 0 0 (by decide) w
  rw [zero_num, show negV 2 0 0 true = nV 2 0 9223372036854775808 0 by kernel_rfl] at h
  exact h

theorem zabs (w : World) : Calls Tryd.prog 49 #[tV 2 0 9223372036854775808] w fun e w' => e = .returned (nV 2 0 0 0) ∧ Ext w w' := by
  have h := pabs_any 2 0 9223372036854775808 ⟨#[]⟩ none 0 0 (by decide) w
  rw [mzero_num, show absV 2 0 9223372036854775808 true = nV 2 0 0 0 by kernel_rfl] at h
  exact h

theorem op_sub_self {f : Nat} (h : finF f = true) : opV ⟨#[45]⟩ 2 0 f true 2 0 f true = nV 2 0 0 0 := by
  have e : opV ⟨#[45]⟩ 2 0 f true 2 0 f true = mkO (Ieee.double.sub f f) := by kernel_rfl
  rw [e, sub_self (finF_fin.1 h)]
  show mkF 0 = nV 2 0 0 0
  kernel_rfl

theorem op_mul_zero {f : Nat} (h : finF f = true) (s : Bool) : opV ⟨#[42]⟩ 2 0 f true 2 0 (Ieee.double.word s 0) true = nV 2 0 (Ieee.double.word (sgn f ^^ s) 0) 0 := by
  have e : opV ⟨#[42]⟩ 2 0 f true 2 0 (Ieee.double.word s 0) true = mkO (Ieee.double.mul f (Ieee.double.word s 0)) := by kernel_rfl
  rw [e, mul_zero (finF_fin.1 h)]
  cases (sgn f ^^ s)
  · show mkF 0 = nV 2 0 0 0
    kernel_rfl
  · show mkF 9223372036854775808 = nV 2 0 9223372036854775808 0
    kernel_rfl

theorem shr63 {u : Nat} (hu : u < 18446744073709551616) : ((u : Int) / 9223372036854775808 == 1) = sgn u := by
  have hs := (word_split hu).2
  have e : (u : Int) / 9223372036854775808 = ((u / 9223372036854775808 : Nat) : Int) := by omega
  rw [e, hs]
  cases sgn u <;> rfl

set_option maxRecDepth 100000 in
set_option maxHeartbeats 20000000 in
theorem numZeros_any (u : Nat) (hu : u < 18446744073709551616) (w : World) (ht : Tab4 w) :
    Calls Tryd.prog 13 #[.int .u64 u] w fun e w' => e = .returned (.bool true) ∧ Ext w w' := by
  have HK := Lib.hid (known_any w ht)
  have hf := fun x w => f_any x w
  have hi := fun n w => i_any n w
  have c1 := fun w => zcmp 2 0 0 2 0 9223372036854775808 zero_num mzero_num num_zero.1 num_zero.2.1 w
  have c2 := fun w => zcmp 2 0 0 1 0 0 zero_num izero_num num_zero.1 num_zero.2.2 w
  have c3 := fun w => zcmp 2 0 9223372036854775808 1 0 0 mzero_num izero_num num_zero.2.1 num_zero.2.2 w
  have hss := fun w => zsame w
  have hn := fun w => zneg w
  have ha := fun w => zabs w
  have o1 := fun w => zop (sg := ⟨#[43]⟩) (by kernel_rfl) zero_num mzero_num (by decide) (by decide) (show opV ⟨#[43]⟩ 2 0 0 true 2 0 9223372036854775808 true = nV 2 0 0 0 by kernel_rfl) w
  have o2 := fun w => zop (sg := ⟨#[43]⟩) (by kernel_rfl) mzero_num mzero_num (by decide) (by decide) (show opV ⟨#[43]⟩ 2 0 9223372036854775808 true 2 0 9223372036854775808 true = nV 2 0 9223372036854775808 0 by kernel_rfl) w
  have s1 := fun w => same_self 2 0 0 w
  have s2 := fun w => same_self 2 0 9223372036854775808 w
  have hbu := fun w => pbits_any u hu w
  have r2 : ∀ w, (callFunc 21 #[.int .u64 9223372036854775808]).run Tryd.prog w = .ok (.value (.float .f64 9223372036854775808)) w := run_frombits 9223372036854775808
  unfold tV at hf hi c1 c2 c3 hss hn ha o1 o2 s1 s2
  unfold nV at hn ha o1 o2
  have HF := Lib.hid hf
  have HI := Lib.hid hi
  have HC1 := Lib.hid c1
  have HC2 := Lib.hid c2
  have HC3 := Lib.hid c3
  have HSS := Lib.hid hss
  have HNEG := Lib.hid hn
  have HABS := Lib.hid ha
  have HO1 := Lib.hid o1
  have HO2 := Lib.hid o2
  have HS1 := Lib.hid s1
  have HS2 := Lib.hid s2
  have HBU := Lib.hid hbu
  have HU := Lib.hid hu
  clear hf hi c1 c2 c3 hss hn ha o1 o2 s1 s2 hbu hu ht
  go_enter Tryd.func13, Tryd.ntmps13
  go_upto_region 3 with (first
    | (go_at_call 17; (with_reducible refine HK.out.mono ?_); rintro e w1 ⟨rfl, hE1⟩; have HX := Lib.hid hE1; clear hE1)
    | fail)
  go_upto_region 4 with (first
    | (go_at_call 28; (with_reducible refine (HF.out _ _).mono ?_); rintro e v3 ⟨rfl, hE3⟩; have HE3 := Lib.hid hE3; clear hE3)
    | fail)
  obtain ⟨w3, B3, hw3, hB3, hs3, hx3, hR3⟩ := kbox HE3.out 2 0 0
  rw [hw3, hB3]
  have HP := Lib.hid hR3
  have HX := Lib.hid (HX.out.trans hx3)
  clear hw3 hB3 hs3 hx3 hR3 HE3
  go_upto_region 5 with (first
    | (go_at_call 28; (with_reducible refine (HF.out _ _).mono ?_); rintro e v4 ⟨rfl, hE4⟩; have HE4 := Lib.hid hE4; clear hE4)
    | fail)
  obtain ⟨w4, B4, hw4, hB4, hs4, hx4, hR4⟩ := kbox HE4.out 2 0 9223372036854775808
  rw [hw4, hB4]
  have HP := Lib.hid (HP.out.ext hx4)
  have HM := Lib.hid hR4
  have HX := Lib.hid (HX.out.trans hx4)
  clear hw4 hB4 hs4 hx4 hR4 HE4
  go_cut [45] from 25 to 44 (fun xx wx => xx = .bool false ∧ Hid (Ext w4 wx))
  case first =>
    obtain ⟨p0, p1, p2, p3, p4⟩ := HP.out.exts
    obtain ⟨m0, m1, m2, m3, m4⟩ := HM.out.exts
    have hE0 := Ext.refl w4
    go_region_held3 (fun w' => Ext w4 w') (repeat (first | assumption | apply Ext.drew | apply Ext.alloc))
      (first
        | (go_at_call 43; (with_reducible refine (HC1.out _).mono ?_); rintro e ua ⟨rfl, hFa⟩; have hUa : Ext w4 ua := Ext.trans (by assumption) hFa; clear hFa)
        | (go_at_call 45; (with_reducible refine (HSS.out _).mono ?_); rintro e ub ⟨rfl, hFb⟩; have hUb : Ext w4 ub := Ext.trans (by assumption) hFb; clear hFb)
        | (go_at_call 27; (with_reducible refine (HI.out _ _).mono ?_); rintro e uc ⟨rfl, hFc⟩; have hUc : Ext w4 uc := Ext.trans (by assumption) hFc; clear hFc)
        | (go_at_call 43; (with_reducible refine (HC2.out _).mono ?_); rintro e ud ⟨rfl, hFd⟩; have hUd : Ext w4 ud := Ext.trans (by assumption) hFd; clear hFd)
        | (go_at_call 43; (with_reducible refine (HC3.out _).mono ?_); rintro e ue ⟨rfl, hFe⟩; have hUe : Ext w4 ue := Ext.trans (by assumption) hFe; clear hFe)
        | fail)
    all_goals go_wp2
    all_goals go_meet
    all_goals exact ⟨rfl, Lib.hid (by assumption)⟩
  case rest =>
    obtain ⟨rfl, HW5⟩ := hcut
    rename World => w5
    have HX := Lib.hid (HX.out.trans HW5.out)
    have HP := Lib.hid (HP.out.ext HW5.out)
    have HM := Lib.hid (HM.out.ext HW5.out)
    obtain ⟨p0, p1, p2, p3, p4⟩ := HP.out.cells
    go_upto_region 8 with (first
      | (go_at_call 35; (with_reducible refine (HNEG.out _).mono ?_); rintro e v7 ⟨rfl, hE7⟩; have HE7 := Lib.hid hE7; clear hE7)
      | fail)
    obtain ⟨w7, B7, hw7, hB7, hs7, hx7, hR7⟩ := kbox HE7.out 2 0 9223372036854775808
    rw [hw7, hB7]
    have HP := Lib.hid (HP.out.ext hx7)
    have HM := Lib.hid (HM.out.ext hx7)
    have HN := Lib.hid hR7
    have HX := Lib.hid (HX.out.trans hx7)
    clear hw7 hB7 hs7 hx7 hR7 HE7
    clear p0 p1 p2 p3 p4
    obtain ⟨m0, m1, m2, m3, m4⟩ := HM.out.cells
    go_upto_region 9 with (first
      | (go_at_call 49; (with_reducible refine (HABS.out _).mono ?_); rintro e v8 ⟨rfl, hE8⟩; have HE8 := Lib.hid hE8; clear hE8)
      | fail)
    obtain ⟨w8, B8, hw8, hB8, hs8, hx8, hR8⟩ := kbox HE8.out 2 0 0
    rw [hw8, hB8]
    have HP := Lib.hid (HP.out.ext hx8)
    have HM := Lib.hid (HM.out.ext hx8)
    have HN := Lib.hid (HN.out.ext hx8)
    have HA := Lib.hid hR8
    have HX := Lib.hid (HX.out.trans hx8)
    clear hw8 hB8 hs8 hx8 hR8 HE8
    clear m0 m1 m2 m3 m4
    obtain ⟨m0, m1, m2, m3, m4⟩ := HM.out.cells
    obtain ⟨p0, p1, p2, p3, p4⟩ := HP.out.cells
    go_upto_region 10 with (first
      | (go_at_call 25; (with_reducible refine (HO1.out _).mono ?_); rintro e v9 ⟨rfl, hE9⟩; have HE9 := Lib.hid hE9; clear hE9)
      | fail)
    obtain ⟨w9, B9, hw9, hB9, hs9, hx9, hR9⟩ := kbox HE9.out 2 0 0
    rw [hw9, hB9]
    have HP := Lib.hid (HP.out.ext hx9)
    have HM := Lib.hid (HM.out.ext hx9)
    have HN := Lib.hid (HN.out.ext hx9)
    have HA := Lib.hid (HA.out.ext hx9)
    have HB := Lib.hid hR9
    have HX := Lib.hid (HX.out.trans hx9)
    clear hw9 hB9 hs9 hx9 hR9 HE9
    clear m0 m1 m2 m3 m4 p0 p1 p2 p3 p4
    obtain ⟨m0, m1, m2, m3, m4⟩ := HM.out.cells
    go_upto_region 11 with (first
      | (go_at_call 25; (with_reducible refine (HO2.out _).mono ?_); rintro e v10 ⟨rfl, hE10⟩; have HE10 := Lib.hid hE10; clear hE10)
      | fail)
    obtain ⟨w10, B10, hw10, hB10, hs10, hx10, hR10⟩ := kbox HE10.out 2 0 9223372036854775808
    rw [hw10, hB10]
    have HP := Lib.hid (HP.out.ext hx10)
    have HM := Lib.hid (HM.out.ext hx10)
    have HN := Lib.hid (HN.out.ext hx10)
    have HA := Lib.hid (HA.out.ext hx10)
    have HB := Lib.hid (HB.out.ext hx10)
    have HC := Lib.hid hR10
    have HX := Lib.hid (HX.out.trans hx10)
    clear hw10 hB10 hs10 hx10 hR10 HE10
    clear m0 m1 m2 m3 m4
    go_cut [105] from 68 to 104 (fun xx wx => xx = .bool false ∧ Hid (Ext w10 wx))
    case first =>
      obtain ⟨p0, p1, p2, p3, p4⟩ := HP.out.exts
      obtain ⟨m0, m1, m2, m3, m4⟩ := HM.out.exts
      obtain ⟨n0, n1, n2, n3, n4⟩ := HN.out.exts
      obtain ⟨a0, a1, a2, a3, a4⟩ := HA.out.exts
      obtain ⟨b0, b1, b2, b3, b4⟩ := HB.out.exts
      obtain ⟨c0, c1, c2, c3, c4⟩ := HC.out.exts
      have hE0 := Ext.refl w10
      go_wp2_with (first
        | (go_at_call 20; (with_reducible refine (HS1.out _).mono ?_); rintro e ua ⟨rfl, hFa⟩; have hUa : Ext w10 ua := Ext.trans (by assumption) hFa; clear hFa)
        | (go_at_call 20; (with_reducible refine (HS2.out _).mono ?_); rintro e ub ⟨rfl, hFb⟩; have hUb : Ext w10 ub := Ext.trans (by assumption) hFb; clear hFb)
        | fail)
      all_goals go_meet
      all_goals exact ⟨rfl, Lib.hid (by assumption)⟩
    case rest =>
      obtain ⟨rfl, HW11⟩ := hcut
      rename World => w11
      have HX := Lib.hid (HX.out.trans HW11.out)
      have HP := Lib.hid (HP.out.ext HW11.out)
      have HM := Lib.hid (HM.out.ext HW11.out)
      obtain ⟨xk, xf, xe, hx⟩ := mkF_form u
      rw [hx] at HBU
      unfold nV at HBU
      go_upto_region 14 with (first
        | (go_at_call 24; (with_reducible refine (HBU.out _).mono ?_); rintro e v13 ⟨rfl, hE13⟩; have HE13 := Lib.hid hE13; clear hE13)
        | fail)
      obtain ⟨w13, B13, hw13, hB13, hs13, hx13, hR13⟩ := kbox HE13.out xk 0 xf
      rw [hw13, hB13]
      have HP := Lib.hid (HP.out.ext hx13)
      have HM := Lib.hid (HM.out.ext hx13)
      have HR := Lib.hid hR13
      have HX := Lib.hid (HX.out.trans hx13)
      clear hw13 hB13 hs13 hx13 hR13 HE13
      by_cases fu : finF u = true
      · unfold mkF at hx
        rw [if_pos fu] at hx
        obtain ⟨e1, e2, e3, e4⟩ := nV_eq hx
        subst e1 e3 e4
        have hm1 := fun w => zop (sg := ⟨#[45]⟩) (by kernel_rfl) (numV_2 fu) (numV_2 fu) HU.out HU.out (op_sub_self fu) w
        have hm2 := fun w => zop (sg := ⟨#[42]⟩) (by kernel_rfl) (numV_2 fu) zero_num HU.out (by decide) (op_mul_zero fu false) w
        have hm3 := fun w => zop (sg := ⟨#[42]⟩) (by kernel_rfl) (numV_2 fu) mzero_num HU.out (by decide) (op_mul_zero fu true) w
        have hsh := shr63 HU.out
        have hb := run_bits u
        obtain ⟨sg, hsg⟩ : ∃ sg, sgn u = sg := ⟨_, rfl⟩
        rw [hsg] at hm2 hm3 hsh
        obtain ⟨g1, hg1⟩ : ∃ g, Ieee.double.word (sg ^^ false) 0 = g := ⟨_, rfl⟩
        obtain ⟨g2, hg2⟩ : ∃ g, Ieee.double.word (sg ^^ true) 0 = g := ⟨_, rfl⟩
        rw [hg1] at hm2
        rw [hg2] at hm3
        unfold tV nV at hm1 hm2 hm3
        have HM1 := Lib.hid hm1
        have HM2 := Lib.hid hm2
        have HM3 := Lib.hid hm3
        have HG := Lib.hid (And.intro hg1 hg2)
        clear hm1 hm2 hm3 hx fu e2 hsg hg1 hg2
        obtain ⟨r0, r1, r2, r3, r4⟩ := HR.out.cells
        go_upto_region 17 with (first
          | (go_at_call 25; (with_reducible refine (HM1.out _).mono ?_); rintro e v16 ⟨rfl, hE16⟩; have HE16 := Lib.hid hE16; clear hE16)
          | fail)
        obtain ⟨w16, B16, hw16, hB16, hs16, hx16, hR16⟩ := kbox HE16.out 2 0 0
        rw [hw16, hB16]
        have HP := Lib.hid (HP.out.ext hx16)
        have HM := Lib.hid (HM.out.ext hx16)
        have HR := Lib.hid (HR.out.ext hx16)
        have HD := Lib.hid hR16
        have HX := Lib.hid (HX.out.trans hx16)
        clear hw16 hB16 hs16 hx16 hR16 HE16
        clear r0 r1 r2 r3 r4
        obtain ⟨r0, r1, r2, r3, r4⟩ := HR.out.cells
        obtain ⟨p0, p1, p2, p3, p4⟩ := HP.out.cells
        go_upto_region 18 with (first
          | (go_at_call 25; (with_reducible refine (HM2.out _).mono ?_); rintro e v17 ⟨rfl, hE17⟩; have HE17 := Lib.hid hE17; clear hE17)
          | fail)
        obtain ⟨w17, B17, hw17, hB17, hs17, hx17, hR17⟩ := kbox HE17.out 2 0 g1
        rw [hw17, hB17]
        have HP := Lib.hid (HP.out.ext hx17)
        have HM := Lib.hid (HM.out.ext hx17)
        have HR := Lib.hid (HR.out.ext hx17)
        have HD := Lib.hid (HD.out.ext hx17)
        have HPP := Lib.hid hR17
        have HX := Lib.hid (HX.out.trans hx17)
        clear hw17 hB17 hs17 hx17 hR17 HE17
        clear r0 r1 r2 r3 r4 p0 p1 p2 p3 p4
        obtain ⟨r0, r1, r2, r3, r4⟩ := HR.out.cells
        obtain ⟨m0, m1, m2, m3, m4⟩ := HM.out.cells
        go_upto_region 19 with (first
          | (go_at_call 25; (with_reducible refine (HM3.out _).mono ?_); rintro e v18 ⟨rfl, hE18⟩; have HE18 := Lib.hid hE18; clear hE18)
          | fail)
        obtain ⟨w18, B18, hw18, hB18, hs18, hx18, hR18⟩ := kbox HE18.out 2 0 g2
        rw [hw18, hB18]
        have HP := Lib.hid (HP.out.ext hx18)
        have HM := Lib.hid (HM.out.ext hx18)
        have HR := Lib.hid (HR.out.ext hx18)
        have HD := Lib.hid (HD.out.ext hx18)
        have HPP := Lib.hid (HPP.out.ext hx18)
        have HQQ := Lib.hid hR18
        have HX := Lib.hid (HX.out.trans hx18)
        clear hw18 hB18 hs18 hx18 hR18 HE18
        clear r0 r1 r2 r3 r4 m0 m1 m2 m3 m4
        obtain ⟨r0, r1, r2, r3, r4⟩ := HR.out.cells
        obtain ⟨p0, p1, p2, p3, p4⟩ := HP.out.cells
        obtain ⟨m0, m1, m2, m3, m4⟩ := HM.out.cells
        go_upto_region 21 with (fail)
        obtain ⟨w20, B20, hw20, hB20, hs20, hx20, hR20⟩ := kbox (Ext.refl w18) 2 0 0
        rw [hw20, hB20]
        have HNE := Lib.hid (show B3 ≠ B20 ∧ B4 ≠ B20 ∧ B16 ≠ B20 ∧ B17 ≠ B20 ∧ B18 ≠ B20 from ⟨by have := HP.out.lt; omega, by have := HM.out.lt; omega, by have := HD.out.lt; omega, by have := HPP.out.lt; omega, by have := HQQ.out.lt; omega⟩)
        have HP := Lib.hid (HP.out.ext hx20)
        have HM := Lib.hid (HM.out.ext hx20)
        have HD := Lib.hid (HD.out.ext hx20)
        have HPP := Lib.hid (HPP.out.ext hx20)
        have HQQ := Lib.hid (HQQ.out.ext hx20)
        have HWT := Lib.hid hR20
        have HXW := Lib.hid (show w.heap.size ≤ B20 by rw [← hB20]; exact HX.out.size)
        have HX := Lib.hid (HX.out.trans hx20)
        clear hw20 hB20 hs20 hx20 hR20
        clear p0 p1 p2 p3 p4 m0 m1 m2 m3 m4 r0 r1 r2 r3 r4
        obtain ⟨m0, m1, m2, m3, m4⟩ := HM.out.cells
        go_upto_region 22 with (fail)
        obtain ⟨w21, B21, hw21, hB21, hs21, hx21, hR21⟩ := kbox (Ext.refl w20) 2 0 9223372036854775808
        rw [hw21, hB21]
        have HNE2 := Lib.hid (show B3 ≠ B21 ∧ B4 ≠ B21 ∧ B16 ≠ B21 ∧ B17 ≠ B21 ∧ B18 ≠ B21 ∧ B20 ≠ B21 from ⟨by have := HP.out.lt; omega, by have := HM.out.lt; omega, by have := HD.out.lt; omega, by have := HPP.out.lt; omega, by have := HQQ.out.lt; omega, by have := HWT.out.lt; omega⟩)
        have HP := Lib.hid (HP.out.ext hx21)
        have HM := Lib.hid (HM.out.ext hx21)
        have HD := Lib.hid (HD.out.ext hx21)
        have HPP := Lib.hid (HPP.out.ext hx21)
        have HQQ := Lib.hid (HQQ.out.ext hx21)
        have HWT := Lib.hid (HWT.out.ext hx21)
        have HOT := Lib.hid hR21
        have HXO := Lib.hid (show w.heap.size ≤ B21 by rw [← hB21]; exact HX.out.size)
        have HX := Lib.hid (HX.out.trans hx21)
        clear hw21 hB21 hs21 hx21 hR21 m0 m1 m2 m3 m4
        cases sg
        · obtain ⟨q1, q2⟩ := HG.out
          have q1' : (0 : Nat) = g1 := q1
          have q2' : 9223372036854775808 = g2 := q2
          subst q1' q2'
          clear q1 q2
          obtain ⟨p0, p1, p2, p3, p4⟩ := HP.out.exts
          obtain ⟨d0, d1, d2, d3, d4⟩ := HD.out.exts
          obtain ⟨x0, x1, x2, x3, x4⟩ := HPP.out.exts
          obtain ⟨y0, y1, y2, y3, y4⟩ := HQQ.out.exts
          obtain ⟨t0, t1, t2, t3, t4⟩ := HWT.out.exts
          obtain ⟨o0, o1, o2, o3, o4⟩ := HOT.out.exts
          have hE0 := Ext.refl w21
          go_wp2_with (first
            | (go_at_call 20; (with_reducible refine (HS1.out _).mono ?_); rintro e ua ⟨rfl, hFa⟩; have hUa : Ext w21 ua := Ext.trans (by assumption) hFa; clear hFa)
            | (go_at_call 20; (with_reducible refine (HS2.out _).mono ?_); rintro e ub ⟨rfl, hFb⟩; have hUb : Ext w21 ub := Ext.trans (by assumption) hFb; clear hFb)
            | fail)
          all_goals go_ret
          all_goals exact ⟨rfl, HX.out.trans (by assumption)⟩

        · obtain ⟨q1, q2⟩ := HG.out
          have q1' : 9223372036854775808 = g1 := q1
          have q2' : (0 : Nat) = g2 := q2
          subst q1' q2'
          clear q1 q2
          obtain ⟨m0, m1, m2, m3, m4⟩ := HM.out.cells
          obtain ⟨t0, t1, t2, t3, t4⟩ := HWT.out.cells
          have f0 := HWT.out.free 0
          have f1 := HWT.out.free 1
          have f2 := HWT.out.free 2
          have f3 := HWT.out.free 3
          have f4 := HWT.out.free 4
          go_upto_region 24 with (fail)
          have HX := Lib.hid (ext_set5 HX.out HXW.out 2 0 9223372036854775808 ⟨#[]⟩ none 0 0)
          have HP := Lib.hid (HP.out.keep5 HNE.out.1 2 0 9223372036854775808 ⟨#[]⟩ none 0 0)
          have HD := Lib.hid (HD.out.keep5 HNE.out.2.2.1 2 0 9223372036854775808 ⟨#[]⟩ none 0 0)
          have HPP := Lib.hid (HPP.out.keep5 HNE.out.2.2.2.1 2 0 9223372036854775808 ⟨#[]⟩ none 0 0)
          have HQQ := Lib.hid (HQQ.out.keep5 HNE.out.2.2.2.2 2 0 9223372036854775808 ⟨#[]⟩ none 0 0)
          have HOT := Lib.hid (HOT.out.keep5 (Ne.symm HNE2.out.2.2.2.2.2) 2 0 9223372036854775808 ⟨#[]⟩ none 0 0)
          have HWT := Lib.hid (HWT.out.fill 2 0 9223372036854775808 ⟨#[]⟩ none 0 0)
          clear m0 m1 m2 m3 m4 t0 t1 t2 t3 t4 f0 f1 f2 f3 f4
          unfold set5 at HX HP HD HPP HQQ HOT
          generalize ((((w21.setCell ⟨B20, 0, none⟩ (.int .i64 2)).setCell ⟨B20, 1, none⟩ (.int .i64 0)).setCell ⟨B20, 2, none⟩ (.float .f64 9223372036854775808)).setCell ⟨B20, 3, none⟩ (.string ⟨#[]⟩)).setCell ⟨B20, 4, none⟩ (.slice none 0 0) = w22 at HX HP HD HPP HQQ HOT HWT ⊢
          obtain ⟨m0, m1, m2, m3, m4⟩ := HP.out.cells
          obtain ⟨t0, t1, t2, t3, t4⟩ := HOT.out.cells
          have f0 := HOT.out.free 0
          have f1 := HOT.out.free 1
          have f2 := HOT.out.free 2
          have f3 := HOT.out.free 3
          have f4 := HOT.out.free 4
          go_upto_region 25 with (fail)
          have HX := Lib.hid (ext_set5 HX.out HXO.out 2 0 0 ⟨#[]⟩ none 0 0)
          have HP := Lib.hid (HP.out.keep5 HNE2.out.1 2 0 0 ⟨#[]⟩ none 0 0)
          have HD := Lib.hid (HD.out.keep5 HNE2.out.2.2.1 2 0 0 ⟨#[]⟩ none 0 0)
          have HPP := Lib.hid (HPP.out.keep5 HNE2.out.2.2.2.1 2 0 0 ⟨#[]⟩ none 0 0)
          have HQQ := Lib.hid (HQQ.out.keep5 HNE2.out.2.2.2.2.1 2 0 0 ⟨#[]⟩ none 0 0)
          have HWT := Lib.hid (HWT.out.keep5 HNE2.out.2.2.2.2.2 2 0 0 ⟨#[]⟩ none 0 0)
          have HOT := Lib.hid (HOT.out.fill 2 0 0 ⟨#[]⟩ none 0 0)
          clear m0 m1 m2 m3 m4 t0 t1 t2 t3 t4 f0 f1 f2 f3 f4
          unfold set5 at HX HP HD HPP HQQ HWT
          generalize ((((w22.setCell ⟨B21, 0, none⟩ (.int .i64 2)).setCell ⟨B21, 1, none⟩ (.int .i64 0)).setCell ⟨B21, 2, none⟩ (.float .f64 0)).setCell ⟨B21, 3, none⟩ (.string ⟨#[]⟩)).setCell ⟨B21, 4, none⟩ (.slice none 0 0) = w23 at HX HP HD HPP HQQ HOT HWT ⊢
          obtain ⟨p0, p1, p2, p3, p4⟩ := HP.out.exts
          obtain ⟨d0, d1, d2, d3, d4⟩ := HD.out.exts
          obtain ⟨x0, x1, x2, x3, x4⟩ := HPP.out.exts
          obtain ⟨y0, y1, y2, y3, y4⟩ := HQQ.out.exts
          obtain ⟨t0, t1, t2, t3, t4⟩ := HWT.out.exts
          obtain ⟨o0, o1, o2, o3, o4⟩ := HOT.out.exts
          have hE0 := Ext.refl w23
          go_wp2_with (first
            | (go_at_call 20; (with_reducible refine (HS1.out _).mono ?_); rintro e ua ⟨rfl, hFa⟩; have hUa : Ext w23 ua := Ext.trans (by assumption) hFa; clear hFa)
            | (go_at_call 20; (with_reducible refine (HS2.out _).mono ?_); rintro e ub ⟨rfl, hFb⟩; have hUb : Ext w23 ub := Ext.trans (by assumption) hFb; clear hFb)
            | fail)
          all_goals go_ret
          all_goals exact ⟨rfl, HX.out.trans (by assumption)⟩

      · unfold mkF at hx
        rw [if_neg fu] at hx
        obtain ⟨e1, e2, e3, e4⟩ := nV_eq hx
        subst e1 e3 e4
        clear hx fu e2
        go_wp2_with fail
        go_ret
        exact ⟨rfl, HX.out⟩

end Go.Proofs.YtlpifchimnnfdaaDoor
