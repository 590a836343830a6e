/- NumOrder's walk. -/
import Derived.Test.YtlpifchimnnfdaaDoorNmCmp
import Derived.Test.YtlpifchimnnfdaaDoorNmClean
namespace Go.Proofs.YtlpifchimnnfdaaDoor
open Go.RowKit Ieee
attribute [local irreducible] Ext
attribute [local go_sem] run_store_float

/-- Three boxes that a law makes of its arguments. -/
theorem three_boxes (w : World) (k n : Int) (f : Nat) (s : ByteArray) (so : Option Addr) (m cap : Nat) (k' n' : Int) (f' : Nat) (s' : ByteArray) (so' : Option Addr) (m' cap' : Nat) (k'' n'' : Int) (f'' : Nat) (s'' : ByteArray) (so'' : Option Addr) (m'' cap'' : Nat) :
    ∃ w3, ((w.alloc (.cells #[.int .i64 k, .int .i64 n, .float .f64 f, .string s, .slice so m cap] 27)).alloc (.cells #[.int .i64 k', .int .i64 n', .float .f64 f', .string s', .slice so' m' cap'] 27)).alloc (.cells #[.int .i64 k'', .int .i64 n'', .float .f64 f'', .string s'', .slice so'' m'' cap''] 27) = w3 ∧
      Ext w w3 ∧ RBox w3 w.heap.size k n f s so m cap ∧ RBox w3 (w.heap.size + 1) k' n' f' s' so' m' cap' ∧ RBox w3 (w.heap.size + 2) k'' n'' f'' s'' so'' m'' cap'' := by
  obtain ⟨w1, w2, hw1, hw2, hE, hA, hB⟩ := two_boxes w k n f s so m cap k' n' f' s' so' m' cap'
  have hs : w2.heap.size = w.heap.size + 2 := by rw [← hw2, ← hw1]; simp
  subst hw1
  rw [hw2]
  have hC := RBox.new w2 k'' n'' f'' s'' so'' m'' cap''
  rw [hs] at hC
  have hE2 := (Ext.refl w2).alloc (.cells #[.int .i64 k'', .int .i64 n'', .float .f64 f'', .string s'', .slice so'' m'' cap''] 27)
  exact ⟨_, rfl, hE.trans hE2, hA.ext hE2, hB.ext hE2, hC⟩

theorem fval_zero_of_eq {f f' : Nat} (hf : f < 18446744073709551616) (hf' : f' < 18446744073709551616) (h : fin f) (h' : fin f') (he : fval f = fval f') (hne : f ≠ f') : fval f = 0 ∧ fval f' = 0 := by
  have e1 := fput_fval hf h
  have e2 := fput_fval hf' h'
  by_cases h0 : fval f = 0
  · exact ⟨h0, by rw [← he]; exact h0⟩
  · exfalso
    apply hne
    rw [← e1, ← e2, ← he]
    unfold fput
    rw [if_neg h0, if_neg h0]

theorem cmpI_zero {a b : Int} (h : cmpI a b = 0) : a = b := by
  unfold cmpI at h
  split at h
  · omega
  · split at h <;> omega

theorem cmpI_self (a : Int) : cmpI a a = 0 := by
  unfold cmpI
  rw [if_neg (by omega), if_neg (by omega)]

theorem cmpI_le {a b : Int} : cmpI a b ≤ 0 ↔ a ≤ b := by
  unfold cmpI
  split
  · omega
  · split <;> omega

theorem sameN_val {k n : Int} {f : Nat} {k' n' : Int} {f' : Nat} (h : sameN k n f k' n' f' = true) : numVal k n f = numVal k' n' f' := by
  unfold sameN at h
  simp only [Bool.and_eq_true, beq_iff_eq] at h
  obtain ⟨⟨rfl, rfl⟩, h⟩ := h
  obtain rfl : f = f' := by omega
  rfl

theorem sameN_self (k n : Int) (f : Nat) : sameN k n f k n f = true := by
  unfold sameN
  simp

/-- Of one kind only the zeros are equal, and not the same. -/
theorem only_zeros {k n : Int} {f : Nat} {s : ByteArray} {m : Nat} {k' n' : Int} {f' : Nat} {s' : ByteArray} {m' : Nat} (h1 : numV k n f s m = true) (h2 : numV k' n' f' s' m' = true) (hf : f < 18446744073709551616) (hf' : f' < 18446744073709551616)
    (he : numVal k n f = numVal k' n' f') (hk : k = k') (hs : sameN k n f k' n' f' = false) : k = 2 ∧ fin f ∧ fval f = 0 ∧ fin f' ∧ fval f' = 0 := by
  subst hk
  obtain ⟨_, _, ⟨rfl, rfl, u1, u2⟩ | ⟨rfl, rfl, u1⟩⟩ := numV_shape h1
  · obtain ⟨_, _, ⟨_, rfl, v1, v2⟩ | ⟨h, _⟩⟩ := numV_shape h2
    · have : n = n' := mul_unit_eq.1 he
      subst this
      rw [sameN_self] at hs
      cases hs
    · cases h
  · obtain ⟨_, _, ⟨h, _⟩ | ⟨_, rfl, v1⟩⟩ := numV_shape h2
    · cases h
    · have hv : fval f = fval f' := he
      have hne : f ≠ f' := by
        rintro rfl
        rw [sameN_self] at hs
        cases hs
      obtain ⟨z1, z2⟩ := fval_zero_of_eq hf hf' (finF_fin.1 u1) (finF_fin.1 v1) hv hne
      exact ⟨rfl, finF_fin.1 u1, z1, finF_fin.1 v1, z2⟩

set_option maxRecDepth 100000 in
set_option maxHeartbeats 8000000 in
theorem numOrd_any (k n : Int) (f : Nat) (s : ByteArray) (so : Option Addr) (m cap : Nat) (k' n' : Int) (f' : Nat) (s' : ByteArray) (so' : Option Addr) (m' cap' : Nat) (k'' n'' : Int) (f'' : Nat) (s'' : ByteArray) (so'' : Option Addr) (m'' cap'' : Nat)
    (hf : f < 18446744073709551616) (_ : -9223372036854775808 ≤ k ∧ k ≤ 9223372036854775807) (_ : -9223372036854775808 ≤ n ∧ n ≤ 9223372036854775807)
    (hf' : f' < 18446744073709551616) (_ : -9223372036854775808 ≤ k' ∧ k' ≤ 9223372036854775807) (_ : -9223372036854775808 ≤ n' ∧ n' ≤ 9223372036854775807)
    (_ : f'' < 18446744073709551616) (_ : -9223372036854775808 ≤ k'' ∧ k'' ≤ 9223372036854775807) (_ : -9223372036854775808 ≤ n'' ∧ n'' ≤ 9223372036854775807) (w : World) (ht : Tab4 w) :
    Calls Tryd.prog 12 #[.agg #[.int .i64 k, .int .i64 n, .float .f64 f, .string s, .slice so m cap], .agg #[.int .i64 k', .int .i64 n', .float .f64 f', .string s', .slice so' m' cap'], .agg #[.int .i64 k'', .int .i64 n'', .float .f64 f'', .string s'', .slice so'' m'' cap'']] w fun e w' => e = .returned (.bool true) ∧ Ext w w' := by
  obtain ⟨w3, hw, hE, hA, hB, hC⟩ := three_boxes w k n f s so m cap k' n' f' s' so' m' cap' k'' n'' f'' s'' so'' m'' cap''
  have HW := Lib.hid hw
  have HE := Lib.hid hE
  have HK := Lib.hid (known_any w3 (ht.ext hE))
  have HC1 := Lib.hid (fun w => clean_any k n f s so m cap w)
  have HC2 := Lib.hid (fun w => clean_any k' n' f' s' so' m' cap' w)
  have HC3 := Lib.hid (fun w => clean_any k'' n'' f'' s'' so'' m'' cap'' w)
  obtain ⟨a0, a1, a2, a3, a4⟩ := hA.exts
  obtain ⟨b0, b1, b2, b3, b4⟩ := hB.exts
  obtain ⟨c0, c1, c2, c3, c4⟩ := hC.exts
  have hX := Ext.refl w3
  have HF := Lib.hid (And.intro hf hf')
  clear hw hE hA hB hC ht hf hf'
  obtain ⟨r1, hr1⟩ : ∃ r, numV k n f s m = r := ⟨_, rfl⟩
  obtain ⟨r2, hr2⟩ : ∃ r, numV k' n' f' s' m' = r := ⟨_, rfl⟩
  obtain ⟨r3, hr3⟩ : ∃ r, numV k'' n'' f'' s'' m'' = r := ⟨_, rfl⟩
  rw [hr1] at HC1
  rw [hr2] at HC2
  rw [hr3] at HC3
  have HR := Lib.hid (And.intro hr1 (And.intro hr2 hr3))
  clear hr1 hr2 hr3
  go_enter Tryd.func12, Tryd.ntmps12
  go_upto_region 1 with (fail)
  rw [HW.out]
  go_upto_region 3 with (first
    | (go_at_call 17; (with_reducible refine HK.out.mono ?_); rintro e w4 ⟨rfl, hX4⟩)
    | fail)
  have HX4 := Lib.hid hX4
  obtain ⟨r, hr⟩ : ∃ r, (!(r1 && r2 && r3)) = r := ⟨_, rfl⟩
  have HRR := Lib.hid hr
  go_cut [22] from 10 to 21 (fun xx wx => xx = .bool r ∧ Hid (Ext w3 wx))
  case first =>
    clear hr
    cases r1
    · obtain rfl : true = r := HRR.out
      go_wp2_with (first
        | (go_at_call 33; (with_reducible refine (HC1.out _).mono ?_); rintro e w5 ⟨rfl, hE5⟩; have HX5 := Lib.hid (HX4.out.trans hE5); clear hE5)
        | fail)
      go_meet
      exact ⟨rfl, HX5⟩
    · cases r2
      · obtain rfl : true = r := HRR.out
        go_wp2_with (first
          | (go_at_call 33; (with_reducible refine (HC1.out _).mono ?_); rintro e w5 ⟨rfl, hE5⟩; have hX5 := HX4.out.trans hE5; have HX5 := Lib.hid hX5; clear hE5)
          | (go_at_call 33; (with_reducible refine (HC2.out _).mono ?_); rintro e w6 ⟨rfl, hE6⟩; have HX6 := Lib.hid (HX5.out.trans hE6); clear hE6)
          | fail)
        go_meet
        exact ⟨rfl, HX6⟩
      · obtain rfl : (!r3) = r := by rw [← HRR.out]; cases r3 <;> rfl
        go_wp2_with (first
          | (go_at_call 33; (with_reducible refine (HC1.out _).mono ?_); rintro e w5 ⟨rfl, hE5⟩; have hX5 := HX4.out.trans hE5; have HX5 := Lib.hid hX5; clear hE5)
          | (go_at_call 33; (with_reducible refine (HC2.out _).mono ?_); rintro e w6 ⟨rfl, hE6⟩; have hX6 := HX5.out.trans hE6; have HX6 := Lib.hid hX6; clear hE6)
          | (go_at_call 33; (with_reducible refine (HC3.out _).mono ?_); rintro e w7 ⟨rfl, hE7⟩; have HX7 := Lib.hid (HX6.out.trans hE7); clear hE7)
          | fail)
        go_meet
        exact ⟨rfl, HX7⟩
  case rest =>
    obtain ⟨rfl, HX8⟩ := hcut
    rename World => w8
    cases r
    · obtain ⟨rfl, rfl, rfl⟩ : r1 = true ∧ r2 = true ∧ r3 = true := by
        have h := HRR.out
        cases r1 <;> cases r2 <;> cases r3 <;> first | (cases h; done) | exact ⟨rfl, rfl, rfl⟩
      clear hr HRR HC1 HC2 HC3 hX4
      have hX8 := HX8.out
      have hpab := fun w => pcmp_any k n f s so m cap k' n' f' s' so' m' cap' HR.out.1 HR.out.2.1 w
      have hpba := fun w => pcmp_any k' n' f' s' so' m' cap' k n f s so m cap HR.out.2.1 HR.out.1 w
      have hpaa := fun w => pcmp_any k n f s so m cap k n f s so m cap HR.out.1 HR.out.1 w
      have hpbc := fun w => pcmp_any k' n' f' s' so' m' cap' k'' n'' f'' s'' so'' m'' cap'' HR.out.2.1 HR.out.2.2 w
      have hpac := fun w => pcmp_any k n f s so m cap k'' n'' f'' s'' so'' m'' cap'' HR.out.1 HR.out.2.2 w
      have hsaa := fun w => psame_any k n f s so m cap k n f s so m cap HF.out.1 HF.out.1 HR.out.1 HR.out.1 w
      have hsab := fun w => psame_any k n f s so m cap k' n' f' s' so' m' cap' HF.out.1 HF.out.2 HR.out.1 HR.out.2.1 w
      have hz := fun h => only_zeros HR.out.1 HR.out.2.1 HF.out.1 HF.out.2 h
      have hsv := fun h => sameN_val (k := k) (n := n) (f := f) (k' := k') (n' := n') (f' := f') h
      rw [sameN_self] at hsaa
      rw [cmpI_self] at hpaa
      generalize sameN k n f k' n' f' = sab at hsab hz hsv
      generalize numVal k n f = A at hpab hpba hpac hz hsv
      generalize numVal k' n' f' = B at hpab hpba hpbc hz hsv
      generalize numVal k'' n'' f'' = C at hpbc hpac
      obtain ⟨x, hx⟩ : ∃ x, cmpI A B = x := ⟨_, rfl⟩
      obtain ⟨y, hy⟩ : ∃ y, cmpI B A = y := ⟨_, rfl⟩
      obtain ⟨z, hz'⟩ : ∃ z, cmpI B C = z := ⟨_, rfl⟩
      obtain ⟨v, hv⟩ : ∃ v, cmpI A C = v := ⟨_, rfl⟩
      have hxy : y = -x := by rw [← hx, ← hy, cmpI_neg]
      have hxr := cmpI_range A B
      have hx0 := fun h : x = 0 => cmpI_zero (hx.trans h)
      have htr : x ≤ 0 → z ≤ 0 → v ≤ 0 := by
        rw [← hx, ← hz', ← hv, cmpI_le, cmpI_le, cmpI_le]
        exact fun a b => Int.le_trans a b
      have hss : sab = true → x = 0 := fun h => by rw [← hx, hsv h, cmpI_self]
      rw [hx] at hpab hxr
      rw [hy] at hpba
      rw [hz'] at hpbc
      rw [hv] at hpac
      have d1 : decide (x < -1) = false := decide_eq_false (by omega)
      have d2 : decide (1 < x) = false := decide_eq_false (by omega)
      have e1 : IntKind.i64.wrap (0 - y) = x := by rw [hxy, IntWalk.i64_in _ (by omega)]; omega
      have e2 : IntKind.i64.wrap (-y) = x := by rw [hxy, IntWalk.i64_in _ (by omega)]; omega
      have HPAB := Lib.hid hpab
      have HPBA := Lib.hid hpba
      have HPAA := Lib.hid hpaa
      have HPBC := Lib.hid hpbc
      have HPAC := Lib.hid hpac
      have HSAA := Lib.hid hsaa
      have HSAB := Lib.hid hsab
      have HFACT := Lib.hid (And.intro hz (And.intro hx0 (And.intro htr hss)))
      clear hpab hpba hpaa hpbc hpac hsaa hsab hz hsv hx hy hz' hv hxy hxr hx0 htr hss
      go_upto_region 8 with (first
        | (go_at_call 43; (with_reducible refine (HPAB.out _).mono ?_); rintro e w9 ⟨rfl, hE9⟩; have hX9 := HX8.out.trans hE9; have HX9 := Lib.hid hX9; clear hE9)
        | (go_at_call 43; (with_reducible refine (HPBA.out _).mono ?_); rintro e w10 ⟨rfl, hE10⟩; have hX10 := HX9.out.trans hE10; have HX10 := Lib.hid hX10; clear hE10)
        | (go_at_call 43; (with_reducible refine (HPAA.out _).mono ?_); rintro e w11 ⟨rfl, hE11⟩; have hX11 := HX10.out.trans hE11; have HX11 := Lib.hid hX11; clear hE11)
        | (go_at_call 45; (with_reducible refine (HSAA.out _).mono ?_); rintro e w12 ⟨rfl, hE12⟩; have hX12 := HX11.out.trans hE12; have HX12 := Lib.hid hX12; clear hE12)
        | fail)
      go_cut [65] from 52 to 64 (fun xx wx => xx = .bool false ∧ Hid (Ext w3 wx))
      case first =>
        obtain ⟨p1, hp1⟩ : ∃ p, decide (x ≤ 0) = p := ⟨_, rfl⟩
        cases p1
        · go_wp2_with fail
          go_meet
          exact ⟨rfl, HX12⟩
        · obtain ⟨p2, hp2⟩ : ∃ p, decide (z ≤ 0) = p := ⟨_, rfl⟩
          cases p2
          · go_wp2_with (first
              | (go_at_call 43; (with_reducible refine (HPBC.out _).mono ?_); rintro e w13 ⟨rfl, hE13⟩; have HX13 := Lib.hid (HX12.out.trans hE13); clear hE13)
              | fail)
            go_meet
            exact ⟨rfl, HX13⟩
          · have hp3 : decide (0 < v) = false := decide_eq_false (by have := HFACT.out.2.2.1 (of_decide_eq_true hp1) (of_decide_eq_true hp2); omega)
            go_wp2_with (first
              | (go_at_call 43; (with_reducible refine (HPBC.out _).mono ?_); rintro e w13 ⟨rfl, hE13⟩; have hX13 := HX12.out.trans hE13; have HX13 := Lib.hid hX13; clear hE13)
              | (go_at_call 43; (with_reducible refine (HPAC.out _).mono ?_); rintro e w14 ⟨rfl, hE14⟩; have HX14 := Lib.hid (HX13.out.trans hE14); clear hE14)
              | fail)
            go_meet
            exact ⟨rfl, HX14⟩
      case rest =>
        obtain ⟨rfl, HX15⟩ := hcut
        rename World => w15
        have hX15 := HX15.out
        go_upto_region 10 with (fail)
        go_cut [72] from 66 to 71 (fun xx wx => xx = .bool false ∧ Hid (Ext w3 wx))
        case first =>
          cases sab
          · go_wp2_with (first
              | (go_at_call 45; (with_reducible refine (HSAB.out _).mono ?_); rintro e w16 ⟨rfl, hE16⟩; have HX16 := Lib.hid (HX15.out.trans hE16); clear hE16)
              | fail)
            go_meet
            exact ⟨rfl, HX16⟩
          · have hx0 : x = 0 := HFACT.out.2.2.2 rfl
            have hp4 : (x != 0) = false := by rw [hx0]; rfl
            clear hx0
            go_wp2_with (first
              | (go_at_call 45; (with_reducible refine (HSAB.out _).mono ?_); rintro e w16 ⟨rfl, hE16⟩; have HX16 := Lib.hid (HX15.out.trans hE16); clear hE16)
              | fail)
            go_meet
            exact ⟨rfl, HX16⟩
        case rest =>
          obtain ⟨rfl, HX17⟩ := hcut
          rename World => w17
          have hX17 := HX17.out
          go_upto_region 12 with (fail)
          obtain ⟨q, hq⟩ : ∃ q, ((x == 0) && (k == k') && !sab) = q := ⟨_, rfl⟩
          have HQ := Lib.hid hq
          go_cut [87] from 73 to 86 (fun xx wx => xx = .bool q ∧ Hid (Ext w3 wx))
          case first =>
            clear hq
            cases p1 : (x == 0)
            · obtain rfl : false = q := by rw [← HQ.out, p1]; rfl
              go_wp2_with fail
              go_meet
              exact ⟨rfl, HX17⟩
            · cases p2 : (k == k')
              · obtain rfl : false = q := by rw [← HQ.out, p1, p2]; rfl
                go_wp2_with fail
                go_meet
                exact ⟨rfl, HX17⟩
              · obtain rfl : (!sab) = q := by rw [← HQ.out, p1, p2]; cases sab <;> rfl
                go_wp2_with (first
                  | (go_at_call 45; (with_reducible refine (HSAB.out _).mono ?_); rintro e w18 ⟨rfl, hE18⟩; have HX18 := Lib.hid (HX17.out.trans hE18); clear hE18)
                  | fail)
                go_meet
                exact ⟨rfl, HX18⟩
          case rest =>
            obtain ⟨rfl, HX19⟩ := hcut
            rename World => w19
            have hX19 := HX19.out
            cases q
            · clear hq
              go_wp2_with fail
              go_ret
              exact ⟨rfl, HE.out.trans HX19.out⟩
            · have h3 : (x = 0 ∧ k = k') ∧ sab = false := by simpa [and_assoc] using hq
              obtain ⟨⟨h4, h5⟩, h6⟩ := h3
              obtain ⟨g1, g2, g3, g4, g5⟩ := HFACT.out.1 (HFACT.out.2.1 h4) h5 h6
              have p3 : (k == 2) = true := by rw [g1]; rfl
              have o1 := ord_tests (order_eq g2 val0.1 (g3.trans val0.2.symm))
              have o2 := ord_tests (order_eq g4 val0.1 (g5.trans val0.2.symm))
              clear hq h4 h5 h6 g1 g2 g3 g4 g5
              go_wp2_with fail
              go_ret
              exact ⟨rfl, HE.out.trans HX19.out⟩
    · go_wp2_with fail
      go_ret
      exact ⟨rfl, HE.out.trans HX8.out⟩

end Go.Proofs.YtlpifchimnnfdaaDoor
