/- Numbers: the document's Neg, Abs, Real. -/
import Derived.Test.YtlpifchimnnfdaaDoorNmRound2
import Derived.Test.YtlpifchimnnfdaaDoorNmReck
namespace Go.Proofs.YtlpifchimnnfdaaDoor
open Go.RowKit
attribute [local irreducible] Ext
attribute [local go_sem] run_store_float

/-- A number and an error, where the elements may lie anywhere. -/
def nVs (k n : Int) (f : Nat) (so : Option Addr) (cap : Nat) (e : Int) : Value := .tuple #[.agg #[.int .i64 k, .int .i64 n, .float .f64 f, .string ⟨#[]⟩, .slice so 0 cap], .int .i64 e]

theorem xor_top (f : Nat) (hf : f < 18446744073709551616) : bits .xor .u64 (f : Int) 9223372036854775808 = (xneg f : Int) := by
  have h := xneg_lt hf
  show IntKind.u64.wrap ((BitVec.ofInt 64 (f : Int) ^^^ BitVec.ofInt 64 ((9223372036854775808 : Nat) : Int)).toNat : Int) = _
  rw [BitVec.toNat_xor, ofInt_u64 f (by omega), ofInt_u64 9223372036854775808 (by omega), wrap_u64]
  have e : f ^^^ 9223372036854775808 = xneg f := by
    unfold xneg Op.negFloat
    rfl
  rw [e]
  omega

theorem turned_any (f : Nat) (hf : f < 18446744073709551616) (w : World) : Calls Tryd.prog 79 #[.float .f64 f] w fun e w' => e = .returned (.float .f64 (xneg f)) ∧ w = w' := by
  have hb := run_bits f
  have hx := xor_top f hf
  have hfb := run_frombits (xneg f)
  generalize xneg f = g at hx hfb ⊢
  clear hf
  go_enter Tryd.func79, Tryd.ntmps79
  go_wp2_with fail
  go_ret
  exact ⟨rfl, rfl⟩

set_option maxRecDepth 100000 in
set_option maxHeartbeats 4000000 in
theorem rneg_any (k n : Int) (f : Nat) (s : ByteArray) (so : Option Addr) (m cap : Nat) (hf : f < 18446744073709551616) (w : World) :
    Calls Tryd.prog 50 #[.agg #[.int .i64 k, .int .i64 n, .float .f64 f, .string s, .slice so m cap]] w fun e w' => e = .returned (negV k n f (numV k n f s m)) ∧ Ext w w' := by
  obtain ⟨w2, hw, hO⟩ := one_start w k n f s so m cap
  have HW := Lib.hid hw
  have HO := Lib.hid hO
  have HC := Lib.hid (fun w => rright_any k n f s so m cap w)
  obtain ⟨r, hr⟩ : ∃ r, numV k n f s m = r := ⟨_, rfl⟩
  obtain ⟨V, hV⟩ : ∃ V, negV k n f r = V := ⟨_, rfl⟩
  rw [hr] at HC ⊢
  rw [hV]
  have HR := Lib.hid hr
  obtain ⟨c0, c1, c2, c3, c4⟩ := hO.a.cells
  clear hw hO hr
  cases r
  · have HV := Lib.hid (hV.symm.trans (show negV k n f false = nV 0 0 0 11 from rfl))
    clear hV
    go_enter Tryd.func50, Tryd.ntmps50
    go_upto_region 1 with (fail)
    rw [HW.out]
    go_wp2_with (first
      | (go_at_call 42
         (with_reducible refine (HC.out _).mono ?_)
         rintro e w3 ⟨rfl, hE3⟩
         obtain ⟨hz, hY⟩ := (HO.out.next hE3).fill 0 0 0
         obtain ⟨⟨g0, g1, g2, g3, g4⟩, ⟨a0, a1, a2, a3, a4⟩, s0, s1, s2, s3, s4⟩ := hz
         unfold set5 at s0 s1 s2 s3 s4
         have HY := Lib.hid hY
         clear hY hE3)
      | fail)
    exact bodyPost_ret (v := nV 0 0 0 11) (by simp [results, nV, Tryd.f50, go_sem, s0, s1, s2, s3, s4]) rfl ⟨by rw [HV.out], HY.out⟩
  · obtain ⟨rfl, rfl, ⟨rfl, rfl, u1, u2⟩ | ⟨rfl, rfl, u1⟩⟩ := numV_shape HR.out
    · obtain ⟨rk, rn, rf, re, hmk⟩ := nV_form (.inl (mkI_form (-n)))
      have HV := Lib.hid (hV.symm.trans ((show negV 1 n 0 true = mkI (-n) by unfold negV; rw [if_neg (by decide), if_pos (by decide)]).trans hmk))
      have hX := fun w => rint_any (-n) w
      rw [hmk] at hX
      have HX := Lib.hid hX
      have e1 : IntKind.i64.wrap (-n) = -n := IntWalk.i64_in _ (by omega)
      have e2 : IntKind.i64.wrap (0 - n) = -n := by rw [Int.zero_sub]; exact e1
      clear hV hX hmk u1 u2 hf
      go_enter Tryd.func50, Tryd.ntmps50
      go_upto_region 1 with (fail)
      rw [HW.out]
      go_wp2_with (first
        | (go_at_call 42
           (with_reducible refine (HC.out _).mono ?_)
           rintro e w3 ⟨rfl, hE3⟩
           have HO3 := Lib.hid (HO.out.next hE3)
           obtain ⟨d0, d1, d2, d3, d4⟩ := HO3.out.a.cells
           clear hE3 c0 c1 c2 c3 c4)
        | (go_at_call 19
           (with_reducible refine (HX.out _).mono ?_)
           rintro e w4 ⟨rfl, hE4⟩
           unfold nV
           obtain ⟨hz, hY⟩ := (HO3.out.next hE4).fill rk rn rf
           obtain ⟨⟨g0, g1, g2, g3, g4⟩, ⟨a0, a1, a2, a3, a4⟩, s0, s1, s2, s3, s4⟩ := hz
           unfold set5 at s0 s1 s2 s3 s4
           have HY := Lib.hid hY
           clear hY hE4)
        | fail)
      exact bodyPost_ret (v := nV rk rn rf re) (by simp [results, nV, Tryd.f50, go_sem, s0, s1, s2, s3, s4]) rfl ⟨by rw [HV.out], HY.out⟩
    · have hx := xneg_fin hf u1
      have HV := Lib.hid (hV.symm.trans ((show negV 2 0 f true = mkF (xneg f) by unfold negV; rw [if_neg (by decide), if_neg (by decide)]).trans (mkF_fin hx)))
      have hT := fun w => turned_any f hf w
      have hF := fun w => rF_any (xneg f) w
      unfold tV at hF
      generalize xneg f = g at hT hF HV
      have HT := Lib.hid hT
      have HF := Lib.hid hF
      clear hV hx hT hF hf u1
      go_enter Tryd.func50, Tryd.ntmps50
      go_upto_region 1 with (fail)
      rw [HW.out]
      go_wp2_with (first
        | (go_at_call 42
           (with_reducible refine (HC.out _).mono ?_)
           rintro e w3 ⟨rfl, hE3⟩
           have HO3 := Lib.hid (HO.out.next hE3)
           obtain ⟨d0, d1, d2, d3, d4⟩ := HO3.out.a.cells
           clear hE3 c0 c1 c2 c3 c4)
        | (go_at_call 79; (with_reducible refine (HT.out _).mono ?_); rintro e wa ⟨rfl, rfl⟩)
        | (go_at_call 59
           (with_reducible refine (HF.out _).mono ?_)
           rintro e w4 ⟨rfl, hE4⟩
           obtain ⟨hz, hY⟩ := (HO3.out.next hE4).fill 2 0 g
           obtain ⟨⟨g0, g1, g2, g3, g4⟩, ⟨a0, a1, a2, a3, a4⟩, s0, s1, s2, s3, s4⟩ := hz
           unfold set5 at s0 s1 s2 s3 s4
           have HY := Lib.hid hY
           clear hY hE4)
        | fail)
      exact bodyPost_ret (v := nV 2 0 g 0) (by simp [results, nV, Tryd.f50, go_sem, s0, s1, s2, s3, s4]) rfl ⟨by rw [HV.out], HY.out⟩

/-- What the document's Abs, Whole leave: the number's elements lie anywhere. -/
def AnyPost (w : World) (V : Value) (e : Ending) (w' : World) : Prop := ∃ k n f so cap er, e = .returned (nVs k n f so cap er) ∧ V = nV k n f er ∧ Ext w w'

set_option maxRecDepth 100000 in
set_option maxHeartbeats 4000000 in
theorem rabs_any (k n : Int) (f : Nat) (s : ByteArray) (so : Option Addr) (m cap : Nat) (hf : f < 18446744073709551616) (w : World) :
    Calls Tryd.prog 51 #[.agg #[.int .i64 k, .int .i64 n, .float .f64 f, .string s, .slice so m cap]] w fun e w' => AnyPost w (absV k n f (numV k n f s m)) e w' := by
  obtain ⟨w2, hw, hO⟩ := one_start w k n f s so m cap
  have HW := Lib.hid hw
  have HO := Lib.hid hO
  have HC := Lib.hid (fun w => rright_any k n f s so m cap w)
  have hN := fun w => rneg_any k n f s so m cap hf w
  have hb := run_bits f
  obtain ⟨r, hr⟩ : ∃ r, numV k n f s m = r := ⟨_, rfl⟩
  obtain ⟨V, hV⟩ : ∃ V, absV k n f r = V := ⟨_, rfl⟩
  rw [hr] at HC hN ⊢
  rw [hV]
  have HR := Lib.hid hr
  obtain ⟨c0, c1, c2, c3, c4⟩ := hO.a.cells
  clear hw hO hr
  cases r
  · have HV := Lib.hid (hV.symm.trans (show absV k n f false = nV 0 0 0 11 from rfl))
    clear hV hN
    go_enter Tryd.func51, Tryd.ntmps51
    go_upto_region 1 with (fail)
    rw [HW.out]
    go_wp2_with (first
      | (go_at_call 42
         (with_reducible refine (HC.out _).mono ?_)
         rintro e w3 ⟨rfl, hE3⟩
         obtain ⟨hz, hY⟩ := (HO.out.next hE3).fill 0 0 0
         obtain ⟨⟨g0, g1, g2, g3, g4⟩, ⟨a0, a1, a2, a3, a4⟩, s0, s1, s2, s3, s4⟩ := hz
         unfold set5 at s0 s1 s2 s3 s4
         have HY := Lib.hid hY
         clear hY hE3)
      | fail)
    exact bodyPost_ret (v := nV 0 0 0 11) (by simp [results, nV, Tryd.f51, go_sem, s0, s1, s2, s3, s4]) rfl ⟨0, 0, 0, none, 0, 11, rfl, HV.out, HY.out⟩
  · obtain ⟨rfl, rfl, hsh⟩ := numV_shape HR.out
    obtain ⟨q, hq⟩ : ∃ q, (k == 1 && decide (0 ≤ n) || k == 2 && ((f : Int) / 9223372036854775808 == 0)) = q := ⟨_, rfl⟩
    have HQ := Lib.hid hq
    have hs := (word_split hf).2
    have hd : (f : Int) / 9223372036854775808 = ((f / 9223372036854775808 : Nat) : Int) := by omega
    have hval : (q = true → V = nV k n f 0) ∧ (q = false → V = negV k n f true) := by
      rcases hsh with ⟨rfl, rfl, u1, u2⟩ | ⟨rfl, rfl, u1⟩
      · have e : absV 1 n 0 true = mkI (n.natAbs : Int) := by unfold absV; rw [if_neg (by decide), if_pos (by decide)]
        have e2 : negV 1 n 0 true = mkI (-n) := by unfold negV; rw [if_neg (by decide), if_pos (by decide)]
        rw [← hV, e, e2]
        by_cases h0 : 0 ≤ n
        · rw [decide_eq_true h0] at hq
          refine ⟨fun _ => ?_, fun h => by rw [← hq] at h; cases h⟩
          rw [show (n.natAbs : Int) = n by omega]
          exact mkI_in' ⟨u1, u2⟩
        · rw [decide_eq_false h0] at hq
          refine ⟨fun h => (by rw [← hq] at h; cases h), fun _ => ?_⟩
          rw [show (n.natAbs : Int) = -n by omega]
      · have e : absV 2 0 f true = mkF (f % 9223372036854775808) := by unfold absV; rw [if_neg (by decide), if_neg (by decide)]
        have e2 : negV 2 0 f true = mkF (xneg f) := by unfold negV; rw [if_neg (by decide), if_neg (by decide)]
        rw [← hV, e, e2, xneg_eq hf]
        unfold fneg
        cases hsg : sgn f
        · rw [hsg] at hs
          have hz : f / 9223372036854775808 = 0 := hs
          rw [hd, hz] at hq
          refine ⟨fun _ => ?_, fun h => by rw [← hq] at h; cases h⟩
          rw [show f % 9223372036854775808 = f by omega]
          exact mkF_fin u1
        · rw [hsg] at hs
          have hz : f / 9223372036854775808 = 1 := hs
          rw [hd, hz] at hq
          refine ⟨fun h => (by rw [← hq] at h; cases h), fun _ => ?_⟩
          rw [if_pos rfl]
    have HVAL := Lib.hid hval
    have HNN := Lib.hid hN
    have hk1 : k = 1 ∨ k = 2 := by
      rcases hsh with ⟨h, _⟩ | ⟨h, _⟩
      · exact .inl h
      · exact .inr h
    clear hval hsh hV hs hd hq hN hf
    go_enter Tryd.func51, Tryd.ntmps51
    go_upto_region 1 with (fail)
    rw [HW.out]
    go_upto_region 3 with (first
      | (go_at_call 42
         (with_reducible refine (HC.out _).mono ?_)
         rintro e w3 ⟨rfl, hE3⟩
         have HO3 := Lib.hid (HO.out.next hE3)
         obtain ⟨d0, d1, d2, d3, d4⟩ := HO3.out.a.cells
         clear hE3 c0 c1 c2 c3 c4)
      | fail)
    go_cut [27] from 7 to 26 (fun xx wx => xx = .bool q ∧ w3 = wx)
    case first =>
      have hq := HQ.out
      rcases hk1 with rfl | rfl
      · obtain ⟨p, hp⟩ : ∃ p, decide (0 ≤ n) = p := ⟨_, rfl⟩
        rw [hp] at hq
        cases p
        · obtain rfl : false = q := by rw [← hq]; rfl
          clear hq
          go_wp2_with fail
          go_meet
          exact ⟨rfl, rfl⟩
        · obtain rfl : true = q := by rw [← hq]; rfl
          clear hq
          go_wp2_with fail
          go_meet
          exact ⟨rfl, rfl⟩
      · obtain ⟨p, hp⟩ : ∃ p, ((f : Int) / 9223372036854775808 == 0) = p := ⟨_, rfl⟩
        rw [hp] at hq
        cases p
        · obtain rfl : false = q := by rw [← hq]; rfl
          clear hq
          go_wp2_with fail
          go_meet
          exact ⟨rfl, rfl⟩
        · obtain rfl : true = q := by rw [← hq]; rfl
          clear hq
          go_wp2_with fail
          go_meet
          exact ⟨rfl, rfl⟩
    case rest =>
      obtain ⟨rfl, rfl⟩ := hcut
      cases q
      · have hV := HVAL.out.2 rfl
        obtain ⟨rk, rn, rf, re, hmk⟩ : ∃ rk rn rf re, negV k n f true = nV rk rn rf re := by
          unfold negV
          rw [if_neg (by decide)]
          split
          · exact nV_form (.inl (mkI_form _))
          · exact nV_form (.inr (mkF_form _))
        have HV := Lib.hid (hV.trans hmk)
        have hN := HNN.out
        rw [hmk] at hN
        unfold nV at hN
        have HN := Lib.hid hN
        clear hV hmk hN hk1
        go_wp2_with (first
          | (go_at_call 50
             (with_reducible refine (HN.out _).mono ?_)
             rintro e w4 ⟨rfl, hE4⟩
             obtain ⟨hz, hY⟩ := (HO3.out.next hE4).fill rk rn rf
             obtain ⟨⟨g0, g1, g2, g3, g4⟩, ⟨a0, a1, a2, a3, a4⟩, s0, s1, s2, s3, s4⟩ := hz
             unfold set5 at s0 s1 s2 s3 s4
             have HY := Lib.hid hY
             clear hY hE4)
          | fail)
        exact bodyPost_ret (v := nV rk rn rf re) (by simp [results, nV, Tryd.f51, go_sem, s0, s1, s2, s3, s4]) rfl ⟨rk, rn, rf, none, 0, re, rfl, HV.out, HY.out⟩
      · have HV := Lib.hid (HVAL.out.1 rfl)
        have hz := HO3.out.z
        have g0 := hz.free 0
        have g1 := hz.free 1
        have g2 := hz.free 2
        have g3 := hz.free 3
        have g4 := hz.free 4
        obtain ⟨a0, a1, a2, a3, a4⟩ := hz.cells
        obtain ⟨s0, s1, s2, s3, s4⟩ := (hz.fill k n f ⟨#[]⟩ so 0 cap).cells
        have HY := Lib.hid (ext_set5 (B := w.heap.size + 1) HO3.out.ext (by omega) k n f ⟨#[]⟩ so 0 cap)
        clear hz hk1
        go_wp2_with fail
        exact bodyPost_ret (v := nVs k n f so cap 0) (by simp [results, nVs, Tryd.f51, go_sem, s0, s1, s2, s3, s4]) rfl ⟨k, n, f, so, cap, 0, rfl, HV.out, HY.out⟩

set_option maxRecDepth 100000 in
set_option maxHeartbeats 4000000 in
theorem rreal1_any (k n : Int) (f : Nat) (s : ByteArray) (so : Option Addr) (m cap : Nat) (hf : f < 18446744073709551616) (hn : -9223372036854775808 ≤ n ∧ n ≤ 9223372036854775807) (w : World) :
    Calls Tryd.prog 52 #[.agg #[.int .i64 k, .int .i64 n, .float .f64 f, .string s, .slice so m cap]] w fun e w' => e = .returned (reV k n f (numV k n f s m)) ∧ Ext w w' := by
  obtain ⟨w2, hw, hO⟩ := one_start w k n f s so m cap
  have HW := Lib.hid hw
  have HO := Lib.hid hO
  have HC := Lib.hid (fun w => rright_any k n f s so m cap w)
  obtain ⟨r, hr⟩ : ∃ r, numV k n f s m = r := ⟨_, rfl⟩
  obtain ⟨V, hV⟩ : ∃ V, reV k n f r = V := ⟨_, rfl⟩
  rw [hr] at HC ⊢
  rw [hV]
  have HR := Lib.hid hr
  obtain ⟨c0, c1, c2, c3, c4⟩ := hO.a.cells
  clear hw hO hr
  cases r
  · have HV := Lib.hid (hV.symm.trans (show reV k n f false = nV 0 0 0 13 from rfl))
    clear hV hn
    go_enter Tryd.func52, Tryd.ntmps52
    go_upto_region 1 with (fail)
    rw [HW.out]
    go_wp2_with (first
      | (go_at_call 42
         (with_reducible refine (HC.out _).mono ?_)
         rintro e w3 ⟨rfl, hE3⟩
         obtain ⟨hz, hY⟩ := (HO.out.next hE3).fill 0 0 0
         obtain ⟨⟨g0, g1, g2, g3, g4⟩, ⟨a0, a1, a2, a3, a4⟩, s0, s1, s2, s3, s4⟩ := hz
         unfold set5 at s0 s1 s2 s3 s4
         have HY := Lib.hid hY
         clear hY hE3)
      | fail)
    exact bodyPost_ret (v := nV 0 0 0 13) (by simp [results, nV, Tryd.f52, go_sem, s0, s1, s2, s3, s4]) rfl ⟨by rw [HV.out], HY.out⟩
  · have hfin : finF (realF k n f) = true := by
      obtain ⟨_, _, ⟨rfl, rfl, u1, u2⟩ | ⟨rfl, rfl, u1⟩⟩ := numV_shape HR.out
      · exact finF_fin.2 (near_fin (by omega))
      · exact u1
    have hk : k = 1 ∨ k = 2 := by
      obtain ⟨_, _, ⟨h, _⟩ | ⟨h, _⟩⟩ := numV_shape HR.out
      · exact .inl h
      · exact .inr h
    have HV := Lib.hid (hV.symm.trans ((show reV k n f true = mkF (realF k n f) from rfl).trans (mkF_fin hfin)))
    have hP := fun w => rreal_any k n f s so m cap hk hn w
    have hF := fun w => rF_any (realF k n f) w
    unfold tV at hF
    generalize realF k n f = g at hP hF HV
    have HP := Lib.hid hP
    have HF := Lib.hid hF
    clear hV hfin hk hP hF hf hn
    go_enter Tryd.func52, Tryd.ntmps52
    go_upto_region 1 with (fail)
    rw [HW.out]
    go_wp2_with (first
      | (go_at_call 42
         (with_reducible refine (HC.out _).mono ?_)
         rintro e w3 ⟨rfl, hE3⟩
         have HO3 := Lib.hid (HO.out.next hE3)
         obtain ⟨d0, d1, d2, d3, d4⟩ := HO3.out.a.cells
         clear hE3 c0 c1 c2 c3 c4)
      | (go_at_call 67; (with_reducible refine (HP.out _).mono ?_); rintro e w4 ⟨rfl, hE4⟩; have HO4 := Lib.hid (HO3.out.next hE4); clear hE4)
      | (go_at_call 59
         (with_reducible refine (HF.out _).mono ?_)
         rintro e w5 ⟨rfl, hE5⟩
         obtain ⟨hz, hY⟩ := (HO4.out.next hE5).fill 2 0 g
         obtain ⟨⟨g0, g1, g2, g3, g4⟩, ⟨a0, a1, a2, a3, a4⟩, s0, s1, s2, s3, s4⟩ := hz
         unfold set5 at s0 s1 s2 s3 s4
         have HY := Lib.hid hY
         clear hY hE5)
      | fail)
    exact bodyPost_ret (v := nV 2 0 g 0) (by simp [results, nV, Tryd.f52, go_sem, s0, s1, s2, s3, s4]) rfl ⟨by rw [HV.out], HY.out⟩

end Go.Proofs.YtlpifchimnnfdaaDoor
