/- Numbers: exact, divided, floating: the program's operators. -/
import Derived.Test.YtlpifchimnnfdaaDoorNmFlt
import Derived.Test.YtlpifchimnnfdaaDoorNmMul
import Derived.Laws.FloatArith
namespace Go.Proofs.YtlpifchimnnfdaaDoor
open Go.RowKit
attribute [local irreducible] Ext
attribute [local go_sem] run_store_float

/-- What is made of a float that may be none. -/
def mkO (r : Option Nat) : Value := match r with
  | some b => mkF b
  | none => nV 0 0 0 11

theorem mkO_form (r : Option Nat) : ∃ k g e, mkO r = nV k 0 g e := by
  cases r with
  | none => exact ⟨_, _, _, rfl⟩
  | some b => exact mkF_form b

theorem nan_lt (t : Nat) : (t % 2) * 2 ^ 63 + 0x7ff0000000000000 + 1 + (t / 2) % (2 ^ 52 - 1) < 18446744073709551616 := by
  have h1 : t % 2 = 0 ∨ t % 2 = 1 := by omega
  have h2 := Nat.mod_lt (t / 2) (show 2 ^ 52 - 1 > 0 by decide)
  rcases h1 with h1 | h1 <;> rw [h1] <;> omega

theorem mkF_nan {b : Nat} (h : nanF b = true) : mkF b = nV 0 0 0 11 := by
  unfold mkF
  rw [if_neg]
  rw [← finF_not, h]
  simp

/-- An operator on floats: what comes of it, be it drawn. -/
theorem run_farith (P : Program) (op : BinOp) (hop : op = .add ∨ op = .sub ∨ op = .mul ∨ op = .quo) (t : TypeId) (x y : Nat) (w : World) :
    ∃ r w', (binOp op t (.float .f64 x) (.float .f64 y)).run P w = .ok (.float .f64 r) w' ∧ mkF r = mkO (floatBits op .f64 x y) ∧ r < 18446744073709551616 ∧ Ext w w' ∧ (∀ b, floatBits op .f64 x y = some b → r = b) ∧ (floatBits op .f64 x y = none → nanF r = true) := by
  cases hs : floatBits op .f64 x y with
  | some b =>
    refine ⟨b, w, run_float_arith w op t .f64 x y b hs, rfl, ?_, Ext.refl w, fun c hc => Option.some.inj hc, fun h => by cases h⟩
    have := floatBits_wf hs
    simpa [Lit.wf] using this
  | none =>
    have hn : nanF ((Question.nanBits .f64 x y).cut (w.tape w.drawn (.nanBits .f64 x y))) = true := nan_drawn _
    refine ⟨(Question.nanBits .f64 x y).cut (w.tape w.drawn (.nanBits .f64 x y)), w.drew, ?_, mkF_nan hn, nan_lt _, (Ext.refl w).drew, (fun b h => by cases h), fun _ => hn⟩
    rcases hop with rfl | rfl | rfl | rfl
    all_goals
      have h2 := hs
      simp only [floatBits] at h2
      simp [binOp, Op.floatArith, h2, choose, Sem.run, Question.forced]

/-- What exact reckons. -/
def exI (sg : ByteArray) (a b : Int) : Int := if (sg.toList == [43]) = true then a + b else if (sg.toList == [45]) = true then a - b else a * b

/-- A made value's form, whatever it is. -/
theorem nV_form {v : Value} (h : (∃ k m e, v = nV k m 0 e) ∨ ∃ k g e, v = nV k 0 g e) : ∃ k n f e, v = nV k n f e := by
  rcases h with ⟨k, m, e, h⟩ | ⟨k, g, e, h⟩
  · exact ⟨_, _, _, _, h⟩
  · exact ⟨_, _, _, _, h⟩

theorem pexact_any (sg : ByteArray) (a b : Int) (ha : -576460752303423488 ≤ a ∧ a ≤ 576460752303423487) (hb : -576460752303423488 ≤ b ∧ b ≤ 576460752303423487) (w : World) :
    Calls Tryd.prog 63 #[.string sg, .int .i64 a, .int .i64 b] w fun e w' => e = .returned (mkI (exI sg a b)) ∧ Ext w w' := by
  obtain ⟨w1, hw, hE, hz, _⟩ := zbox w
  have HW := Lib.hid hw
  have HZ := Lib.hid hz
  have HE := Lib.hid hE
  have hx := fun w => ptimes_any a b ha hb w
  have hi := fun n w => pint_any n w
  obtain ⟨ha1, ha2⟩ := ha
  obtain ⟨hb1, hb2⟩ := hb
  clear hw hE hz
  unfold exI
  cases b1 : (sg.toList == [43])
  · cases b2 : (sg.toList == [45])
    · rw [if_neg (by decide), if_neg (by decide)]
      obtain ⟨rk, rn, rf, re, hmk⟩ := nV_form (.inl (mkI_form (a * b)))
      rw [hmk] at hx ⊢
      have HX := Lib.hid hx
      clear hx hi hmk
      go_enter Tryd.func63, Tryd.ntmps63
      go_upto_region 1 with (fail)
      rw [HW.out]
      go_wp2_with (first
        | (go_at_call 83
           (with_reducible refine (HX.out _).mono ?_)
           rintro e w3 ⟨rfl, hE3⟩
           obtain ⟨⟨g0, g1, g2, g3, g4⟩, ⟨a0, a1, a2, a3, a4⟩, s0, s1, s2, s3, s4⟩ := zfacts (HZ.out.ext hE3) rk rn rf
           unfold set5 at s0 s1 s2 s3 s4
           have HY := Lib.hid (ext_set5 (HE.out.trans hE3) (Nat.le_refl _) rk rn rf ⟨#[]⟩ none 0 0)
           unfold nV
           clear hE3)
        | fail)
      exact bodyPost_ret (v := nV rk rn rf re) (by simp [results, nV, Tryd.f63, go_sem, s0, s1, s2, s3, s4]) rfl ⟨rfl, HY.out⟩
    · rw [if_neg (by decide), if_pos rfl]
      obtain ⟨rk, rn, rf, re, hmk⟩ := nV_form (.inl (mkI_form (a - b)))
      have hi := hi (a - b)
      rw [hmk] at hi ⊢
      have HX := Lib.hid hi
      clear hx hi hmk
      go_enter Tryd.func63, Tryd.ntmps63
      go_upto_region 1 with (fail)
      rw [HW.out]
      go_wp2_with (first
        | (go_at_call 18
           (with_reducible refine (HX.out _).mono ?_)
           rintro e w3 ⟨rfl, hE3⟩
           obtain ⟨⟨g0, g1, g2, g3, g4⟩, ⟨a0, a1, a2, a3, a4⟩, s0, s1, s2, s3, s4⟩ := zfacts (HZ.out.ext hE3) rk rn rf
           unfold set5 at s0 s1 s2 s3 s4
           have HY := Lib.hid (ext_set5 (HE.out.trans hE3) (Nat.le_refl _) rk rn rf ⟨#[]⟩ none 0 0)
           unfold nV
           clear hE3)
        | fail)
      exact bodyPost_ret (v := nV rk rn rf re) (by simp [results, nV, Tryd.f63, go_sem, s0, s1, s2, s3, s4]) rfl ⟨rfl, HY.out⟩
  · rw [if_pos rfl]
    obtain ⟨rk, rn, rf, re, hmk⟩ := nV_form (.inl (mkI_form (a + b)))
    have hi := hi (a + b)
    rw [hmk] at hi ⊢
    have HX := Lib.hid hi
    clear hx hi hmk
    go_enter Tryd.func63, Tryd.ntmps63
    go_upto_region 1 with (fail)
    rw [HW.out]
    go_wp2_with (first
      | (go_at_call 18
         (with_reducible refine (HX.out _).mono ?_)
         rintro e w3 ⟨rfl, hE3⟩
         obtain ⟨⟨g0, g1, g2, g3, g4⟩, ⟨a0, a1, a2, a3, a4⟩, s0, s1, s2, s3, s4⟩ := zfacts (HZ.out.ext hE3) rk rn rf
         unfold set5 at s0 s1 s2 s3 s4
         have HY := Lib.hid (ext_set5 (HE.out.trans hE3) (Nat.le_refl _) rk rn rf ⟨#[]⟩ none 0 0)
         unfold nV
         clear hE3)
      | fail)
    exact bodyPost_ret (v := nV rk rn rf re) (by simp [results, nV, Tryd.f63, go_sem, s0, s1, s2, s3, s4]) rfl ⟨rfl, HY.out⟩

/-- What divided reckons. -/
def dvV (sg : ByteArray) (a b : Int) : Value := if b = 0 then nV 0 0 0 11 else if (sg.toList == [100, 105, 118]) = true then mkI (a.tdiv b) else mkI (a.tmod b)

theorem pdivided_any (sg : ByteArray) (a b : Int) (ha : -576460752303423488 ≤ a ∧ a ≤ 576460752303423487) (w : World) :
    Calls Tryd.prog 62 #[.string sg, .int .i64 a, .int .i64 b] w fun e w' => e = .returned (dvV sg a b) ∧ Ext w w' := by
  obtain ⟨w1, hw, hE, hz, _⟩ := zbox w
  have HW := Lib.hid hw
  have HZ := Lib.hid hz
  have HE := Lib.hid hE
  have hi := fun n w => pint_any n w
  unfold dvV
  by_cases h0 : b = 0
  · subst h0
    rw [if_pos rfl]
    obtain ⟨⟨g0, g1, g2, g3, g4⟩, ⟨a0, a1, a2, a3, a4⟩, s0, s1, s2, s3, s4⟩ := zfacts hz 0 0 0
    unfold set5 at s0 s1 s2 s3 s4
    have HY := Lib.hid (ext_set5 hE (Nat.le_refl _) 0 0 0 ⟨#[]⟩ none 0 0)
    clear hw hE hz
    go_enter Tryd.func62, Tryd.ntmps62
    go_upto_region 1 with (fail)
    rw [HW.out]
    go_wp2_with fail
    exact bodyPost_ret (v := nV 0 0 0 11) (by simp [results, nV, Tryd.f62, go_sem, s0, s1, s2, s3, s4]) rfl ⟨rfl, HY.out⟩
  · rw [if_neg h0]
    have c0 : (b == 0) = false := beq_eq_false_iff_ne.2 h0
    have hq : -576460752303423488 ≤ a.tdiv b ∧ a.tdiv b ≤ 576460752303423488 := by
      have := Int.natAbs_tdiv_le_natAbs a b
      omega
    have hr : -576460752303423488 ≤ a.tmod b ∧ a.tmod b ≤ 576460752303423488 := by
      have h1 := Int.natAbs_tmod a b
      have h2 := Nat.mod_le a.natAbs b.natAbs
      omega
    obtain ⟨q, hqe⟩ : ∃ q, a.tdiv b = q := ⟨_, rfl⟩
    obtain ⟨r, hre⟩ : ∃ r, a.tmod b = r := ⟨_, rfl⟩
    rw [hqe] at hq ⊢
    rw [hre] at hr ⊢
    have e1 : IntKind.i64.wrap q = q := IntWalk.i64_in _ (by omega)
    have e2 : IntKind.i64.wrap r = r := IntWalk.i64_in _ (by omega)
    clear hw hE hz hq hr ha
    cases b1 : (sg.toList == [100, 105, 118])
    · rw [if_neg (by decide)]
      obtain ⟨rk, rn, rf, re, hmk⟩ := nV_form (.inl (mkI_form r))
      have hi := hi r
      rw [hmk] at hi ⊢
      have HX := Lib.hid hi
      clear hi hmk
      go_enter Tryd.func62, Tryd.ntmps62
      go_upto_region 1 with (fail)
      rw [HW.out]
      go_wp2_with (first
        | (go_at_call 18
           (with_reducible refine (HX.out _).mono ?_)
           rintro e w3 ⟨rfl, hE3⟩
           obtain ⟨⟨g0, g1, g2, g3, g4⟩, ⟨a0, a1, a2, a3, a4⟩, s0, s1, s2, s3, s4⟩ := zfacts (HZ.out.ext hE3) rk rn rf
           unfold set5 at s0 s1 s2 s3 s4
           have HY := Lib.hid (ext_set5 (HE.out.trans hE3) (Nat.le_refl _) rk rn rf ⟨#[]⟩ none 0 0)
           unfold nV
           clear hE3)
        | fail)
      exact bodyPost_ret (v := nV rk rn rf re) (by simp [results, nV, Tryd.f62, go_sem, s0, s1, s2, s3, s4]) rfl ⟨rfl, HY.out⟩
    · rw [if_pos rfl]
      obtain ⟨rk, rn, rf, re, hmk⟩ := nV_form (.inl (mkI_form q))
      have hi := hi q
      rw [hmk] at hi ⊢
      have HX := Lib.hid hi
      clear hi hmk
      go_enter Tryd.func62, Tryd.ntmps62
      go_upto_region 1 with (fail)
      rw [HW.out]
      go_wp2_with (first
        | (go_at_call 18
           (with_reducible refine (HX.out _).mono ?_)
           rintro e w3 ⟨rfl, hE3⟩
           obtain ⟨⟨g0, g1, g2, g3, g4⟩, ⟨a0, a1, a2, a3, a4⟩, s0, s1, s2, s3, s4⟩ := zfacts (HZ.out.ext hE3) rk rn rf
           unfold set5 at s0 s1 s2 s3 s4
           have HY := Lib.hid (ext_set5 (HE.out.trans hE3) (Nat.le_refl _) rk rn rf ⟨#[]⟩ none 0 0)
           unfold nV
           clear hE3)
        | fail)
      exact bodyPost_ret (v := nV rk rn rf re) (by simp [results, nV, Tryd.f62, go_sem, s0, s1, s2, s3, s4]) rfl ⟨rfl, HY.out⟩

/-- Which operator on floats. -/
def flOp (sg : ByteArray) : BinOp := if (sg.toList == [43]) = true then .add else if (sg.toList == [45]) = true then .sub else if (sg.toList == [42]) = true then .mul else .quo

/-- Is a float a zero? -/
def zeroF (y : Nat) : Bool := FloatKind.f64.format.order y 0 == some .eq

/-- What floating reckons. -/
def flV (sg : ByteArray) (x y : Nat) : Value := if (flOp sg = .quo) ∧ zeroF y = true then nV 0 0 0 11 else mkO (floatBits (flOp sg) .f64 x y)

set_option maxHeartbeats 1000000 in
theorem pfloating_any (sg : ByteArray) (x y : Nat) (w : World) :
    Calls Tryd.prog 64 #[.string sg, .float .f64 x, .float .f64 y] w fun e w' => e = .returned (flV sg x y) ∧ Ext w w' := by
  obtain ⟨w1, hw, hE, hz, _⟩ := zbox w
  have HW := Lib.hid hw
  cases b1 : (sg.toList == [43])
  · cases b2 : (sg.toList == [45])
    · cases b3 : (sg.toList == [42])
      · cases b4 : zeroF y
        · obtain ⟨r, w2, hrun, hmk2, hr64, hE2, _, _⟩ := run_farith Tryd.prog .quo (by decide) 24 x y w1
          obtain ⟨rk, rn, rf, re, hmk⟩ := nV_form (.inr (mkF_form r))
          have HX := Lib.hid (fun w => pfloat_any r hr64 w)
          have HV := Lib.hid (show flV sg x y = nV rk rn rf re by rw [← hmk, hmk2]; unfold flV flOp; simp [b1, b2, b3, b4])
          rw [hmk] at HX
          rw [HV.out]
          have hz2 := hz.ext hE2
          have HZ := Lib.hid hz2
          unfold zeroF at b4
          have HE := Lib.hid (hE.trans hE2)
          clear hw hE hz hz2 hE2 hmk hmk2 hr64
          go_enter Tryd.func64, Tryd.ntmps64
          go_upto_region 1 with (fail)
          rw [HW.out]
          go_wp2_with (first
            | (go_at_call 22
               (with_reducible refine (HX.out _).mono ?_)
               rintro e w3 ⟨rfl, hE3⟩
               obtain ⟨⟨g0, g1, g2, g3, g4⟩, ⟨a0, a1, a2, a3, a4⟩, s0, s1, s2, s3, s4⟩ := zfacts (HZ.out.ext hE3) rk rn rf
               unfold set5 at s0 s1 s2 s3 s4
               have HY := Lib.hid (ext_set5 (HE.out.trans hE3) (Nat.le_refl _) rk rn rf ⟨#[]⟩ none 0 0)
               unfold nV
               clear hE3)
            | fail)
          exact bodyPost_ret (v := nV rk rn rf re) (by simp [results, nV, Tryd.f64, go_sem, s0, s1, s2, s3, s4]) rfl ⟨rfl, HY.out⟩
        · have HV := Lib.hid (show flV sg x y = nV 0 0 0 11 by unfold flV flOp; simp [b1, b2, b3, b4])
          rw [HV.out]
          obtain ⟨⟨g0, g1, g2, g3, g4⟩, ⟨a0, a1, a2, a3, a4⟩, s0, s1, s2, s3, s4⟩ := zfacts hz 0 0 0
          unfold set5 at s0 s1 s2 s3 s4
          have HY := Lib.hid (ext_set5 hE (Nat.le_refl _) 0 0 0 ⟨#[]⟩ none 0 0)
          unfold zeroF at b4
          clear hw hE hz
          go_enter Tryd.func64, Tryd.ntmps64
          go_upto_region 1 with (fail)
          rw [HW.out]
          go_wp2_with fail
          exact bodyPost_ret (v := nV 0 0 0 11) (by simp [results, nV, Tryd.f64, go_sem, s0, s1, s2, s3, s4]) rfl ⟨rfl, HY.out⟩
      · obtain ⟨r, w2, hrun, hmk2, hr64, hE2, _, _⟩ := run_farith Tryd.prog .mul (by decide) 24 x y w1
        obtain ⟨rk, rn, rf, re, hmk⟩ := nV_form (.inr (mkF_form r))
        have HX := Lib.hid (fun w => pfloat_any r hr64 w)
        have HV := Lib.hid (show flV sg x y = nV rk rn rf re by rw [← hmk, hmk2]; unfold flV flOp; simp [b1, b2, b3])
        rw [hmk] at HX
        rw [HV.out]
        have hz2 := hz.ext hE2
        have HZ := Lib.hid hz2
        have HE := Lib.hid (hE.trans hE2)
        clear hw hE hz hz2 hE2 hmk hmk2 hr64
        go_enter Tryd.func64, Tryd.ntmps64
        go_upto_region 1 with (fail)
        rw [HW.out]
        go_wp2_with (first
          | (go_at_call 22
             (with_reducible refine (HX.out _).mono ?_)
             rintro e w3 ⟨rfl, hE3⟩
             obtain ⟨⟨g0, g1, g2, g3, g4⟩, ⟨a0, a1, a2, a3, a4⟩, s0, s1, s2, s3, s4⟩ := zfacts (HZ.out.ext hE3) rk rn rf
             unfold set5 at s0 s1 s2 s3 s4
             have HY := Lib.hid (ext_set5 (HE.out.trans hE3) (Nat.le_refl _) rk rn rf ⟨#[]⟩ none 0 0)
             unfold nV
             clear hE3)
          | fail)
        exact bodyPost_ret (v := nV rk rn rf re) (by simp [results, nV, Tryd.f64, go_sem, s0, s1, s2, s3, s4]) rfl ⟨rfl, HY.out⟩
    · obtain ⟨r, w2, hrun, hmk2, hr64, hE2, _, _⟩ := run_farith Tryd.prog .sub (by decide) 24 x y w1
      obtain ⟨rk, rn, rf, re, hmk⟩ := nV_form (.inr (mkF_form r))
      have HX := Lib.hid (fun w => pfloat_any r hr64 w)
      have HV := Lib.hid (show flV sg x y = nV rk rn rf re by rw [← hmk, hmk2]; unfold flV flOp; simp [b1, b2])
      rw [hmk] at HX
      rw [HV.out]
      have hz2 := hz.ext hE2
      have HZ := Lib.hid hz2
      have HE := Lib.hid (hE.trans hE2)
      clear hw hE hz hz2 hE2 hmk hmk2 hr64
      go_enter Tryd.func64, Tryd.ntmps64
      go_upto_region 1 with (fail)
      rw [HW.out]
      go_wp2_with (first
        | (go_at_call 22
           (with_reducible refine (HX.out _).mono ?_)
           rintro e w3 ⟨rfl, hE3⟩
           obtain ⟨⟨g0, g1, g2, g3, g4⟩, ⟨a0, a1, a2, a3, a4⟩, s0, s1, s2, s3, s4⟩ := zfacts (HZ.out.ext hE3) rk rn rf
           unfold set5 at s0 s1 s2 s3 s4
           have HY := Lib.hid (ext_set5 (HE.out.trans hE3) (Nat.le_refl _) rk rn rf ⟨#[]⟩ none 0 0)
           unfold nV
           clear hE3)
        | fail)
      exact bodyPost_ret (v := nV rk rn rf re) (by simp [results, nV, Tryd.f64, go_sem, s0, s1, s2, s3, s4]) rfl ⟨rfl, HY.out⟩
  · obtain ⟨r, w2, hrun, hmk2, hr64, hE2, _, _⟩ := run_farith Tryd.prog .add (by decide) 24 x y w1
    obtain ⟨rk, rn, rf, re, hmk⟩ := nV_form (.inr (mkF_form r))
    have HX := Lib.hid (fun w => pfloat_any r hr64 w)
    have HV := Lib.hid (show flV sg x y = nV rk rn rf re by rw [← hmk, hmk2]; unfold flV flOp; simp [b1])
    rw [hmk] at HX
    rw [HV.out]
    have hz2 := hz.ext hE2
    have HZ := Lib.hid hz2
    have HE := Lib.hid (hE.trans hE2)
    clear hw hE hz hz2 hE2 hmk hmk2 hr64
    go_enter Tryd.func64, Tryd.ntmps64
    go_upto_region 1 with (fail)
    rw [HW.out]
    go_wp2_with (first
      | (go_at_call 22
         (with_reducible refine (HX.out _).mono ?_)
         rintro e w3 ⟨rfl, hE3⟩
         obtain ⟨⟨g0, g1, g2, g3, g4⟩, ⟨a0, a1, a2, a3, a4⟩, s0, s1, s2, s3, s4⟩ := zfacts (HZ.out.ext hE3) rk rn rf
         unfold set5 at s0 s1 s2 s3 s4
         have HY := Lib.hid (ext_set5 (HE.out.trans hE3) (Nat.le_refl _) rk rn rf ⟨#[]⟩ none 0 0)
         unfold nV
         clear hE3)
      | fail)
    exact bodyPost_ret (v := nV rk rn rf re) (by simp [results, nV, Tryd.f64, go_sem, s0, s1, s2, s3, s4]) rfl ⟨rfl, HY.out⟩

end Go.Proofs.YtlpifchimnnfdaaDoor
