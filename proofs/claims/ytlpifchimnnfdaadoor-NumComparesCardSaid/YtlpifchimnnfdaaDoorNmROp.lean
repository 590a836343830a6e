/- Numbers: the document's Op. -/
import Derived.Test.YtlpifchimnnfdaaDoorNmOpDef
import Derived.Test.YtlpifchimnnfdaaDoorNmReck
namespace Go.Proofs.YtlpifchimnnfdaaDoor
open Go.RowKit
attribute [local irreducible] Ext
attribute [local go_sem] run_store_float

theorem numV_kind {k n : Int} {f : Nat} {s : ByteArray} {m : Nat} (h : numV k n f s m = true) : (k = 1 ∨ k = 2) ∧ -9223372036854775808 ≤ n ∧ n ≤ 9223372036854775807 := by
  by_cases h1 : k = 1
  · subst h1
    have := numV_int h
    exact ⟨.inl rfl, by omega, by omega⟩
  · by_cases h2 : k = 2
    · subst h2
      unfold numV at h
      rw [if_neg (by decide), if_pos rfl] at h
      simp only [Bool.and_eq_true, decide_eq_true_eq] at h
      have := h.1.2
      exact ⟨.inr rfl, by omega, by omega⟩
    · unfold numV at h
      rw [if_neg h1, if_neg h2] at h
      cases h

theorem td_bound (a b : Int) (ha : -576460752303423488 ≤ a ∧ a ≤ 576460752303423487) : -576460752303423488 ≤ a.tdiv b ∧ a.tdiv b ≤ 576460752303423488 := by
  have := Int.natAbs_tdiv_le_natAbs a b
  omega

theorem tm_bound (a b : Int) (ha : -576460752303423488 ≤ a ∧ a ≤ 576460752303423487) : -576460752303423488 ≤ a.tmod b ∧ a.tmod b ≤ 576460752303423488 := by
  have h1 := Int.natAbs_tmod a b
  have h2 := Nat.mod_le a.natAbs b.natAbs
  omega

set_option maxRecDepth 100000 in
set_option maxHeartbeats 4000000 in
theorem rop_bad (sg : ByteArray) (hsg : sgnB sg = false) (k n : Int) (f : Nat) (s : ByteArray) (so : Option Addr) (m cap : Nat) (k' n' : Int) (f' : Nat) (s' : ByteArray) (so' : Option Addr) (m' cap' : Nat) (w : World) :
    Calls Tryd.prog 26 #[.string sg, .agg #[.int .i64 k, .int .i64 n, .float .f64 f, .string s, .slice so m cap], .agg #[.int .i64 k', .int .i64 n', .float .f64 f', .string s', .slice so' m' cap']] w fun e w' => e = .returned (nV 0 0 0 13) ∧ Ext w w' := by
  unfold sgnB at hsg
  simp only [Bool.or_eq_false_iff] at hsg
  obtain ⟨⟨⟨⟨⟨b1, b2⟩, b3⟩, b4⟩, b5⟩, b6⟩ := hsg
  obtain ⟨w3, hw, hO⟩ := op_start w k n f s so m cap k' n' f' s' so' m' cap'
  have HW := Lib.hid hw
  obtain ⟨⟨g0, g1, g2, g3, g4⟩, ⟨a0, a1, a2, a3, a4⟩, s0, s1, s2, s3, s4⟩ := zfacts hO.z 0 0 0
  unfold set5 at s0 s1 s2 s3 s4
  have HY := Lib.hid (ext_set5 (B := w.heap.size + 2) hO.ext (by omega) 0 0 0 ⟨#[]⟩ none 0 0)
  clear hw hO
  go_enter Tryd.func26, Tryd.ntmps26
  go_upto_region 1 with (fail)
  rw [HW.out]
  go_wp2_with fail
  exact bodyPost_ret (v := nV 0 0 0 13) (by simp [results, nV, Tryd.f26, go_sem, s0, s1, s2, s3, s4]) rfl ⟨rfl, HY.out⟩

set_option maxRecDepth 100000 in
set_option maxHeartbeats 40000000 in
theorem rop_good (sg : ByteArray) (hsg : sgnB sg = true) (k n : Int) (f : Nat) (s : ByteArray) (so : Option Addr) (m cap : Nat) (k' n' : Int) (f' : Nat) (s' : ByteArray) (so' : Option Addr) (m' cap' : Nat) (w : World) :
    Calls Tryd.prog 26 #[.string sg, .agg #[.int .i64 k, .int .i64 n, .float .f64 f, .string s, .slice so m cap], .agg #[.int .i64 k', .int .i64 n', .float .f64 f', .string s', .slice so' m' cap']] w fun e w' => e = .returned (opV sg k n f (numV k n f s m) k' n' f' (numV k' n' f' s' m')) ∧ Ext w w' := by
  have HS := Lib.hid hsg
  obtain ⟨w3, hw, hO⟩ := op_start w k n f s so m cap k' n' f' s' so' m' cap'
  have HW := Lib.hid hw
  have HO := Lib.hid hO
  have HC1 := Lib.hid (fun w => rright_any k n f s so m cap w)
  have HC2 := Lib.hid (fun w => rright_any k' n' f' s' so' m' cap' w)
  obtain ⟨r, hr⟩ : ∃ r, numV k n f s m = r := ⟨_, rfl⟩
  obtain ⟨r', hr'⟩ : ∃ r, numV k' n' f' s' m' = r := ⟨_, rfl⟩
  rw [hr] at HC1 ⊢
  rw [hr'] at HC2 ⊢
  have HR := Lib.hid (And.intro hr hr')
  obtain ⟨V, hV⟩ : ∃ V, opV sg k n f r k' n' f' r' = V := ⟨_, rfl⟩
  rw [hV]
  have HV0 := Lib.hid hV
  clear hw hO hsg hr hr' hV
  go_enter Tryd.func26, Tryd.ntmps26
  go_upto_region 1 with (fail)
  rw [HW.out]
  go_upto_block 0 with (fail)
  go_cut [] from 13 to 19 (fun wx => wx = w3)
  case first =>
    go_wp2_with fail
    all_goals first
      | (go_meet; exact rfl)
      | (have h := HS.out
         unfold sgnB at h
         simp_all)
  case rest =>
    obtain rfl := hcut
    obtain ⟨c0, c1, c2, c3, c4⟩ := HO.out.a.cells
    by_cases hrr : (r && r') = false
    · have HV := Lib.hid (show V = nV 0 0 0 11 by rw [← HV0.out]; unfold opV; rw [if_neg (by rw [HS.out]; decide), if_pos hrr])
      cases r
      · clear hrr
        go_wp2_with (first
          | ((with_reducible refine (HC1.out _).mono ?_)
             rintro e w8 ⟨rfl, hE8⟩
             obtain ⟨⟨g0, g1, g2, g3, g4⟩, ⟨a0, a1, a2, a3, a4⟩, s0, s1, s2, s3, s4⟩ := zfacts (HO.out.z.ext hE8) 0 0 0
             unfold set5 at s0 s1 s2 s3 s4
             have HY := Lib.hid (ext_set5 (B := w.heap.size + 2) (HO.out.ext.trans hE8) (by omega) 0 0 0 ⟨#[]⟩ none 0 0)
             clear hE8)
          | fail)
        exact bodyPost_ret (v := nV 0 0 0 11) (by simp [results, nV, Tryd.f26, go_sem, s0, s1, s2, s3, s4]) rfl ⟨by rw [HV.out], HY.out⟩
      · obtain rfl : r' = false := by simpa using hrr
        clear hrr
        go_wp2_with (first
          | ((with_reducible refine (HC1.out _).mono ?_)
             rintro e w8 ⟨rfl, hE8⟩
             have HO8 := Lib.hid (HO.out.next hE8)
             obtain ⟨e0, e1, e2, e3, e4⟩ := HO8.out.b.cells
             clear c0 c1 c2 c3 c4 hE8)
          | ((with_reducible refine (HC2.out _).mono ?_)
             rintro e w9 ⟨rfl, hE9⟩
             obtain ⟨⟨g0, g1, g2, g3, g4⟩, ⟨a0, a1, a2, a3, a4⟩, s0, s1, s2, s3, s4⟩ := zfacts (HO8.out.z.ext hE9) 0 0 0
             unfold set5 at s0 s1 s2 s3 s4
             have HY := Lib.hid (ext_set5 (B := w.heap.size + 2) (HO8.out.ext.trans hE9) (by omega) 0 0 0 ⟨#[]⟩ none 0 0)
             clear hE9)
          | fail)
        exact bodyPost_ret (v := nV 0 0 0 11) (by simp [results, nV, Tryd.f26, go_sem, s0, s1, s2, s3, s4]) rfl ⟨by rw [HV.out], HY.out⟩
    · obtain ⟨hr1, hr2⟩ : r = true ∧ r' = true := by simpa using hrr
      subst hr1 hr2
      clear hrr
      obtain ⟨hk1, hn1⟩ := numV_kind HR.out.1
      obtain ⟨hk2, hn2⟩ := numV_kind HR.out.2
      obtain ⟨q, hq⟩ : ∃ q, (k == 1 && k' == 1) = q := ⟨_, rfl⟩
      have HQ := Lib.hid hq
      have hV0 : V = (if wholeB sg = true then (if q = true then dvV sg n n' else nV 0 0 0 11) else if q = true ∧ (sg.toList == [47]) = false then mkI (exI sg n n') else flV sg (realF k n f) (realF k' n' f')) := by
        rw [← HV0.out]
        unfold opV
        rw [if_neg (by rw [HS.out]; decide), if_neg (by decide), hq]
      have HK := Lib.hid (And.intro hk1 (And.intro hk2 (And.intro hn1 hn2)))
      have HU := Lib.hid hV0
      clear hV0 hk1 hk2 hn1 hn2
      go_upto_region 11 with (first
        | ((with_reducible refine (HC1.out _).mono ?_)
           rintro e w4 ⟨rfl, hE4⟩
           have HO4 := Lib.hid (HO.out.next hE4)
           obtain ⟨e0, e1, e2, e3, e4⟩ := HO4.out.b.cells
           clear c0 c1 c2 c3 c4 hE4)
        | ((with_reducible refine (HC2.out _).mono ?_)
           rintro e w5 ⟨rfl, hE5⟩
           have HO5 := Lib.hid (HO4.out.next hE5)
           clear e0 e1 e2 e3 e4 hE5)
        | fail)
      obtain ⟨c0, c1, c2, c3, c4⟩ := HO5.out.a.cells
      obtain ⟨e0, e1, e2, e3, e4⟩ := HO5.out.b.cells
      go_cut [8] from 29 to 36 (fun u wx => u = .bool q ∧ wx = w5)
      case first =>
        cases x1 : (k == 1)
        · rw [x1, Bool.false_and] at hq
          subst hq
          go_wp2_with fail
          go_meet
          exact ⟨rfl, rfl⟩
        · rw [x1, Bool.true_and] at hq
          go_wp2_with fail
          go_meet
          exact ⟨rfl, rfl⟩
      case rest =>
        obtain ⟨rfl, rfl⟩ := hcut
        have hO := HO5.out
        clear hq HO5 HO4 HO HC1 HC2 HW
        obtain ⟨hk1, hk2, hn1, hn2⟩ := HK.out
        cases b5 : (sg.toList == [100, 105, 118]) <;> cases b6 : (sg.toList == [114, 101, 109])
        · have hwh : wholeB sg = false := by unfold wholeB; rw [b5, b6]; rfl
          cases q
          · have HFV := Lib.hid (show V = flV sg (realF k n f) (realF k' n' f') by rw [HU.out, hwh]; simp)
            clear hwh
            cases b1 : (sg.toList == [43])
            · cases b2 : (sg.toList == [45])
              · cases b3 : (sg.toList == [42])
                · skip
                  have HP1 := Lib.hid (fun w => rreal_any k n f s so m cap hk1 hn1 w)
                  have HP2 := Lib.hid (fun w => rreal_any k' n' f' s' so' m' cap' hk2 hn2 w)
                  have HO := Lib.hid hO
                  clear hO
                  go_upto_region 21 with (first
                    | (go_at_call 67
                       (with_reducible refine (HP1.out _).mono ?_)
                       rintro e w8 ⟨rfl, hE8⟩
                       have HO8 := Lib.hid (HO.out.next hE8)
                       clear c0 c1 c2 c3 c4 e0 e1 e2 e3 e4 hE8)
                    | fail)
                  obtain ⟨e0, e1, e2, e3, e4⟩ := HO8.out.b.cells
                  go_upto_region 22 with (first
                    | (go_at_call 67
                       (with_reducible refine (HP2.out _).mono ?_)
                       rintro e w9 ⟨rfl, hE9⟩
                       have HO9 := Lib.hid (HO8.out.next hE9)
                       clear e0 e1 e2 e3 e4 hE9)
                    | fail)
                  generalize realF k n f = X at HFV ⊢
                  generalize realF k' n' f' = Y at HFV ⊢
                  cases hzz : zeroF Y
                  · have hz3 := hzz
                    unfold zeroF at hz3
                    obtain ⟨r, w10, hrun, hmk2, hr64, hE10, _, _⟩ := run_farith Tryd.prog .quo (by decide) 24 X Y w9
                    obtain ⟨rk, rn, rf, re, hmk⟩ := nV_form (.inr (mkF_form r))
                    have HV := Lib.hid (show V = nV rk rn rf re by rw [HFV.out, ← hmk, hmk2]; unfold flV flOp; simp [b1, b2, b3, hzz])
                    have HX := Lib.hid (fun w => rfloat_any r w)
                    rw [hmk] at HX
                    have HOA := Lib.hid (HO9.out.next hE10)
                    clear hmk hmk2 hr64 hE10
                    go_wp2_with (first
                      | (go_at_call 23
                         (with_reducible refine (HX.out _).mono ?_)
                         rintro e w11 ⟨rfl, hE11⟩
                         unfold nV
                         obtain ⟨⟨g0, g1, g2, g3, g4⟩, ⟨a0, a1, a2, a3, a4⟩, s0, s1, s2, s3, s4⟩ := zfacts (HOA.out.z.ext hE11) rk rn rf
                         unfold set5 at s0 s1 s2 s3 s4
                         have HY := Lib.hid (ext_set5 (B := w.heap.size + 2) (HOA.out.ext.trans hE11) (by omega) rk rn rf ⟨#[]⟩ none 0 0)
                         clear hE11)
                      | fail)
                    exact bodyPost_ret (v := nV rk rn rf re) (by simp [results, nV, Tryd.f26, go_sem, s0, s1, s2, s3, s4]) rfl ⟨by rw [HV.out], HY.out⟩
                  · have HV := Lib.hid (show V = nV 0 0 0 11 by rw [HFV.out]; unfold flV flOp; simp [b1, b2, b3, hzz])
                    unfold zeroF at hzz
                    obtain ⟨⟨g0, g1, g2, g3, g4⟩, ⟨a0, a1, a2, a3, a4⟩, s0, s1, s2, s3, s4⟩ := zfacts HO9.out.z 0 0 0
                    unfold set5 at s0 s1 s2 s3 s4
                    have HY := Lib.hid (ext_set5 (B := w.heap.size + 2) HO9.out.ext (by omega) 0 0 0 ⟨#[]⟩ none 0 0)
                    go_wp2_with fail
                    exact bodyPost_ret (v := nV 0 0 0 11) (by simp [results, nV, Tryd.f26, go_sem, s0, s1, s2, s3, s4]) rfl ⟨by rw [HV.out], HY.out⟩
                · skip
                  have HP1 := Lib.hid (fun w => rreal_any k n f s so m cap hk1 hn1 w)
                  have HP2 := Lib.hid (fun w => rreal_any k' n' f' s' so' m' cap' hk2 hn2 w)
                  have HO := Lib.hid hO
                  clear hO
                  go_upto_region 21 with (first
                    | (go_at_call 67
                       (with_reducible refine (HP1.out _).mono ?_)
                       rintro e w8 ⟨rfl, hE8⟩
                       have HO8 := Lib.hid (HO.out.next hE8)
                       clear c0 c1 c2 c3 c4 e0 e1 e2 e3 e4 hE8)
                    | fail)
                  obtain ⟨e0, e1, e2, e3, e4⟩ := HO8.out.b.cells
                  go_upto_region 22 with (first
                    | (go_at_call 67
                       (with_reducible refine (HP2.out _).mono ?_)
                       rintro e w9 ⟨rfl, hE9⟩
                       have HO9 := Lib.hid (HO8.out.next hE9)
                       clear e0 e1 e2 e3 e4 hE9)
                    | fail)
                  generalize realF k n f = X at HFV ⊢
                  generalize realF k' n' f' = Y at HFV ⊢
                  obtain ⟨r, w10, hrun, hmk2, hr64, hE10, _, _⟩ := run_farith Tryd.prog .mul (by decide) 24 X Y w9
                  obtain ⟨rk, rn, rf, re, hmk⟩ := nV_form (.inr (mkF_form r))
                  have HV := Lib.hid (show V = nV rk rn rf re by rw [HFV.out, ← hmk, hmk2]; unfold flV flOp; simp [b1, b2, b3])
                  have HX := Lib.hid (fun w => rfloat_any r w)
                  rw [hmk] at HX
                  have HOA := Lib.hid (HO9.out.next hE10)
                  clear hmk hmk2 hr64 hE10
                  go_wp2_with (first
                    | (go_at_call 23
                       (with_reducible refine (HX.out _).mono ?_)
                       rintro e w11 ⟨rfl, hE11⟩
                       unfold nV
                       obtain ⟨⟨g0, g1, g2, g3, g4⟩, ⟨a0, a1, a2, a3, a4⟩, s0, s1, s2, s3, s4⟩ := zfacts (HOA.out.z.ext hE11) rk rn rf
                       unfold set5 at s0 s1 s2 s3 s4
                       have HY := Lib.hid (ext_set5 (B := w.heap.size + 2) (HOA.out.ext.trans hE11) (by omega) rk rn rf ⟨#[]⟩ none 0 0)
                       clear hE11)
                    | fail)
                  exact bodyPost_ret (v := nV rk rn rf re) (by simp [results, nV, Tryd.f26, go_sem, s0, s1, s2, s3, s4]) rfl ⟨by rw [HV.out], HY.out⟩
              · skip
                have HP1 := Lib.hid (fun w => rreal_any k n f s so m cap hk1 hn1 w)
                have HP2 := Lib.hid (fun w => rreal_any k' n' f' s' so' m' cap' hk2 hn2 w)
                have HO := Lib.hid hO
                clear hO
                go_upto_region 21 with (first
                  | (go_at_call 67
                     (with_reducible refine (HP1.out _).mono ?_)
                     rintro e w8 ⟨rfl, hE8⟩
                     have HO8 := Lib.hid (HO.out.next hE8)
                     clear c0 c1 c2 c3 c4 e0 e1 e2 e3 e4 hE8)
                  | fail)
                obtain ⟨e0, e1, e2, e3, e4⟩ := HO8.out.b.cells
                go_upto_region 22 with (first
                  | (go_at_call 67
                     (with_reducible refine (HP2.out _).mono ?_)
                     rintro e w9 ⟨rfl, hE9⟩
                     have HO9 := Lib.hid (HO8.out.next hE9)
                     clear e0 e1 e2 e3 e4 hE9)
                  | fail)
                generalize realF k n f = X at HFV ⊢
                generalize realF k' n' f' = Y at HFV ⊢
                obtain ⟨r, w10, hrun, hmk2, hr64, hE10, _, _⟩ := run_farith Tryd.prog .sub (by decide) 24 X Y w9
                obtain ⟨rk, rn, rf, re, hmk⟩ := nV_form (.inr (mkF_form r))
                have HV := Lib.hid (show V = nV rk rn rf re by rw [HFV.out, ← hmk, hmk2]; unfold flV flOp; simp [b1, b2])
                have HX := Lib.hid (fun w => rfloat_any r w)
                rw [hmk] at HX
                have HOA := Lib.hid (HO9.out.next hE10)
                clear hmk hmk2 hr64 hE10
                go_wp2_with (first
                  | (go_at_call 23
                     (with_reducible refine (HX.out _).mono ?_)
                     rintro e w11 ⟨rfl, hE11⟩
                     unfold nV
                     obtain ⟨⟨g0, g1, g2, g3, g4⟩, ⟨a0, a1, a2, a3, a4⟩, s0, s1, s2, s3, s4⟩ := zfacts (HOA.out.z.ext hE11) rk rn rf
                     unfold set5 at s0 s1 s2 s3 s4
                     have HY := Lib.hid (ext_set5 (B := w.heap.size + 2) (HOA.out.ext.trans hE11) (by omega) rk rn rf ⟨#[]⟩ none 0 0)
                     clear hE11)
                  | fail)
                exact bodyPost_ret (v := nV rk rn rf re) (by simp [results, nV, Tryd.f26, go_sem, s0, s1, s2, s3, s4]) rfl ⟨by rw [HV.out], HY.out⟩
            · skip
              have HP1 := Lib.hid (fun w => rreal_any k n f s so m cap hk1 hn1 w)
              have HP2 := Lib.hid (fun w => rreal_any k' n' f' s' so' m' cap' hk2 hn2 w)
              have HO := Lib.hid hO
              clear hO
              go_upto_region 21 with (first
                | (go_at_call 67
                   (with_reducible refine (HP1.out _).mono ?_)
                   rintro e w8 ⟨rfl, hE8⟩
                   have HO8 := Lib.hid (HO.out.next hE8)
                   clear c0 c1 c2 c3 c4 e0 e1 e2 e3 e4 hE8)
                | fail)
              obtain ⟨e0, e1, e2, e3, e4⟩ := HO8.out.b.cells
              go_upto_region 22 with (first
                | (go_at_call 67
                   (with_reducible refine (HP2.out _).mono ?_)
                   rintro e w9 ⟨rfl, hE9⟩
                   have HO9 := Lib.hid (HO8.out.next hE9)
                   clear e0 e1 e2 e3 e4 hE9)
                | fail)
              generalize realF k n f = X at HFV ⊢
              generalize realF k' n' f' = Y at HFV ⊢
              obtain ⟨r, w10, hrun, hmk2, hr64, hE10, _, _⟩ := run_farith Tryd.prog .add (by decide) 24 X Y w9
              obtain ⟨rk, rn, rf, re, hmk⟩ := nV_form (.inr (mkF_form r))
              have HV := Lib.hid (show V = nV rk rn rf re by rw [HFV.out, ← hmk, hmk2]; unfold flV flOp; simp [b1])
              have HX := Lib.hid (fun w => rfloat_any r w)
              rw [hmk] at HX
              have HOA := Lib.hid (HO9.out.next hE10)
              clear hmk hmk2 hr64 hE10
              go_wp2_with (first
                | (go_at_call 23
                   (with_reducible refine (HX.out _).mono ?_)
                   rintro e w11 ⟨rfl, hE11⟩
                   unfold nV
                   obtain ⟨⟨g0, g1, g2, g3, g4⟩, ⟨a0, a1, a2, a3, a4⟩, s0, s1, s2, s3, s4⟩ := zfacts (HOA.out.z.ext hE11) rk rn rf
                   unfold set5 at s0 s1 s2 s3 s4
                   have HY := Lib.hid (ext_set5 (B := w.heap.size + 2) (HOA.out.ext.trans hE11) (by omega) rk rn rf ⟨#[]⟩ none 0 0)
                   clear hE11)
                | fail)
              exact bodyPost_ret (v := nV rk rn rf re) (by simp [results, nV, Tryd.f26, go_sem, s0, s1, s2, s3, s4]) rfl ⟨by rw [HV.out], HY.out⟩
          · have h11 : k = 1 ∧ k' = 1 := by have := HQ.out; simpa using this
            cases b4 : (sg.toList == [47])
            · obtain ⟨rfl, rfl⟩ := h11
              obtain ⟨rk, rn, rf, re, hmk⟩ := nV_form (.inl (mkI_form (exI sg n n')))
              have HV := Lib.hid (show V = nV rk rn rf re by rw [HU.out, hwh]; simp [b4, hmk])
              have HX := Lib.hid (fun w => reckon_any sg n n' (numV_int HR.out.1) (numV_int HR.out.2) w)
              rw [hmk] at HX
              clear hmk hwh hk1 hk2 hn1 hn2
              have HO := Lib.hid hO
              clear hO
              go_wp2_with (first
                | (go_at_call 66
                   (with_reducible refine (HX.out _).mono ?_)
                   rintro e w9 ⟨rfl, hE9⟩
                   unfold nV
                   obtain ⟨⟨g0, g1, g2, g3, g4⟩, ⟨a0, a1, a2, a3, a4⟩, s0, s1, s2, s3, s4⟩ := zfacts (HO.out.z.ext hE9) rk rn rf
                   unfold set5 at s0 s1 s2 s3 s4
                   have HY := Lib.hid (ext_set5 (B := w.heap.size + 2) (HO.out.ext.trans hE9) (by omega) rk rn rf ⟨#[]⟩ none 0 0)
                   clear hE9)
                | fail)
              exact bodyPost_ret (v := nV rk rn rf re) (by simp [results, nV, Tryd.f26, go_sem, s0, s1, s2, s3, s4]) rfl ⟨by rw [HV.out], HY.out⟩
            · have hsl : sg.toList = [47] := by simpa using b4
              have b1 : (sg.toList == [43]) = false := by rw [hsl]; decide
              have b2 : (sg.toList == [45]) = false := by rw [hsl]; decide
              have b3 : (sg.toList == [42]) = false := by rw [hsl]; decide
              have HFV := Lib.hid (show V = flV sg (realF k n f) (realF k' n' f') by rw [HU.out, hwh]; simp [b4])
              clear hwh hsl h11
              have HP1 := Lib.hid (fun w => rreal_any k n f s so m cap hk1 hn1 w)
              have HP2 := Lib.hid (fun w => rreal_any k' n' f' s' so' m' cap' hk2 hn2 w)
              have HO := Lib.hid hO
              clear hO
              go_upto_region 21 with (first
                | (go_at_call 67
                   (with_reducible refine (HP1.out _).mono ?_)
                   rintro e w8 ⟨rfl, hE8⟩
                   have HO8 := Lib.hid (HO.out.next hE8)
                   clear c0 c1 c2 c3 c4 e0 e1 e2 e3 e4 hE8)
                | fail)
              obtain ⟨e0, e1, e2, e3, e4⟩ := HO8.out.b.cells
              go_upto_region 22 with (first
                | (go_at_call 67
                   (with_reducible refine (HP2.out _).mono ?_)
                   rintro e w9 ⟨rfl, hE9⟩
                   have HO9 := Lib.hid (HO8.out.next hE9)
                   clear e0 e1 e2 e3 e4 hE9)
                | fail)
              generalize realF k n f = X at HFV ⊢
              generalize realF k' n' f' = Y at HFV ⊢
              cases hzz : zeroF Y
              · have hz3 := hzz
                unfold zeroF at hz3
                obtain ⟨r, w10, hrun, hmk2, hr64, hE10, _, _⟩ := run_farith Tryd.prog .quo (by decide) 24 X Y w9
                obtain ⟨rk, rn, rf, re, hmk⟩ := nV_form (.inr (mkF_form r))
                have HV := Lib.hid (show V = nV rk rn rf re by rw [HFV.out, ← hmk, hmk2]; unfold flV flOp; simp [b1, b2, b3, hzz])
                have HX := Lib.hid (fun w => rfloat_any r w)
                rw [hmk] at HX
                have HOA := Lib.hid (HO9.out.next hE10)
                clear hmk hmk2 hr64 hE10
                go_wp2_with (first
                  | (go_at_call 23
                     (with_reducible refine (HX.out _).mono ?_)
                     rintro e w11 ⟨rfl, hE11⟩
                     unfold nV
                     obtain ⟨⟨g0, g1, g2, g3, g4⟩, ⟨a0, a1, a2, a3, a4⟩, s0, s1, s2, s3, s4⟩ := zfacts (HOA.out.z.ext hE11) rk rn rf
                     unfold set5 at s0 s1 s2 s3 s4
                     have HY := Lib.hid (ext_set5 (B := w.heap.size + 2) (HOA.out.ext.trans hE11) (by omega) rk rn rf ⟨#[]⟩ none 0 0)
                     clear hE11)
                  | fail)
                exact bodyPost_ret (v := nV rk rn rf re) (by simp [results, nV, Tryd.f26, go_sem, s0, s1, s2, s3, s4]) rfl ⟨by rw [HV.out], HY.out⟩
              · have HV := Lib.hid (show V = nV 0 0 0 11 by rw [HFV.out]; unfold flV flOp; simp [b1, b2, b3, hzz])
                unfold zeroF at hzz
                obtain ⟨⟨g0, g1, g2, g3, g4⟩, ⟨a0, a1, a2, a3, a4⟩, s0, s1, s2, s3, s4⟩ := zfacts HO9.out.z 0 0 0
                unfold set5 at s0 s1 s2 s3 s4
                have HY := Lib.hid (ext_set5 (B := w.heap.size + 2) HO9.out.ext (by omega) 0 0 0 ⟨#[]⟩ none 0 0)
                go_wp2_with fail
                exact bodyPost_ret (v := nV 0 0 0 11) (by simp [results, nV, Tryd.f26, go_sem, s0, s1, s2, s3, s4]) rfl ⟨by rw [HV.out], HY.out⟩
        all_goals have hwh : wholeB sg = true := by unfold wholeB; rw [b5, b6]; rfl
        all_goals clear hk1 hk2 hn1 hn2
        all_goals cases q
        all_goals first
          | (have HV := Lib.hid (show V = nV 0 0 0 11 by rw [HU.out, hwh, if_pos rfl, if_neg (by decide)])
             clear hwh
             obtain ⟨⟨g0, g1, g2, g3, g4⟩, ⟨a0, a1, a2, a3, a4⟩, s0, s1, s2, s3, s4⟩ := zfacts hO.z 0 0 0
             unfold set5 at s0 s1 s2 s3 s4
             have HY := Lib.hid (ext_set5 (B := w.heap.size + 2) hO.ext (by omega) 0 0 0 ⟨#[]⟩ none 0 0)
             clear hO
             go_wp2_with fail
             exact bodyPost_ret (v := nV 0 0 0 11) (by simp [results, nV, Tryd.f26, go_sem, s0, s1, s2, s3, s4]) rfl ⟨by rw [HV.out], HY.out⟩)
          | (have h11 : k = 1 ∧ k' = 1 := by have := HQ.out; simpa using this
             obtain ⟨rfl, rfl⟩ := h11
             by_cases h0 : n' = 0
             · subst h0
               have HV := Lib.hid (show V = nV 0 0 0 11 by rw [HU.out, hwh, if_pos rfl, if_pos rfl]; unfold dvV; rw [if_pos rfl])
               clear hwh
               obtain ⟨⟨g0, g1, g2, g3, g4⟩, ⟨a0, a1, a2, a3, a4⟩, s0, s1, s2, s3, s4⟩ := zfacts hO.z 0 0 0
               unfold set5 at s0 s1 s2 s3 s4
               have HY := Lib.hid (ext_set5 (B := w.heap.size + 2) hO.ext (by omega) 0 0 0 ⟨#[]⟩ none 0 0)
               clear hO
               go_wp2_with fail
               exact bodyPost_ret (v := nV 0 0 0 11) (by simp [results, nV, Tryd.f26, go_sem, s0, s1, s2, s3, s4]) rfl ⟨by rw [HV.out], HY.out⟩
             · have z0 : (n' == 0) = false := beq_eq_false_iff_ne.2 h0
               first
                 | (have hsl : sg.toList = [114, 101, 109] := by simpa using b6
                    have b5' : (sg.toList == [100, 105, 118]) = false := by rw [hsl]; decide
                    have hb := tm_bound n n' (numV_int HR.out.1)
                    have HV1 := Lib.hid (show V = mkI (n.tmod n') by rw [HU.out, hwh, if_pos rfl, if_pos rfl]; unfold dvV; rw [if_neg h0, b5', if_neg (by decide)])
                    obtain ⟨t, ht⟩ : ∃ t, n.tmod n' = t := ⟨_, rfl⟩
                    rw [ht] at hb HV1
                    have e1' : IntKind.i64.wrap t = t := IntWalk.i64_in _ (by omega)
                    obtain ⟨rk, rn, rf, re, hmk⟩ := nV_form (.inl (mkI_form t))
                    have HV := Lib.hid (show V = nV rk rn rf re by rw [HV1.out, hmk])
                    have HX := Lib.hid (fun w => rint_any t w)
                    rw [hmk] at HX
                    clear hmk hwh hsl b5' hb
                    have HO := Lib.hid hO
                    clear hO
                    go_wp2_with (first
                      | (go_at_call 19
                         (with_reducible refine (HX.out _).mono ?_)
                         rintro e w9 ⟨rfl, hE9⟩
                         unfold nV
                         obtain ⟨⟨g0, g1, g2, g3, g4⟩, ⟨a0, a1, a2, a3, a4⟩, s0, s1, s2, s3, s4⟩ := zfacts (HO.out.z.ext hE9) rk rn rf
                         unfold set5 at s0 s1 s2 s3 s4
                         have HY := Lib.hid (ext_set5 (B := w.heap.size + 2) (HO.out.ext.trans hE9) (by omega) rk rn rf ⟨#[]⟩ none 0 0)
                         clear hE9)
                      | fail)
                    exact bodyPost_ret (v := nV rk rn rf re) (by simp [results, nV, Tryd.f26, go_sem, s0, s1, s2, s3, s4]) rfl ⟨by rw [HV.out], HY.out⟩)
                 | (have hsl : sg.toList = [100, 105, 118] := by simpa using b5
                    have hb := td_bound n n' (numV_int HR.out.1)
                    have HV1 := Lib.hid (show V = mkI (n.tdiv n') by rw [HU.out, hwh, if_pos rfl, if_pos rfl]; unfold dvV; rw [if_neg h0, hsl, if_pos (by decide)])
                    obtain ⟨t, ht⟩ : ∃ t, n.tdiv n' = t := ⟨_, rfl⟩
                    rw [ht] at hb HV1
                    have e1' : IntKind.i64.wrap t = t := IntWalk.i64_in _ (by omega)
                    obtain ⟨rk, rn, rf, re, hmk⟩ := nV_form (.inl (mkI_form t))
                    have HV := Lib.hid (show V = nV rk rn rf re by rw [HV1.out, hmk])
                    have HX := Lib.hid (fun w => rint_any t w)
                    rw [hmk] at HX
                    clear hmk hwh hsl hb
                    have HO := Lib.hid hO
                    clear hO
                    go_wp2_with (first
                      | (go_at_call 19
                         (with_reducible refine (HX.out _).mono ?_)
                         rintro e w9 ⟨rfl, hE9⟩
                         unfold nV
                         obtain ⟨⟨g0, g1, g2, g3, g4⟩, ⟨a0, a1, a2, a3, a4⟩, s0, s1, s2, s3, s4⟩ := zfacts (HO.out.z.ext hE9) rk rn rf
                         unfold set5 at s0 s1 s2 s3 s4
                         have HY := Lib.hid (ext_set5 (B := w.heap.size + 2) (HO.out.ext.trans hE9) (by omega) rk rn rf ⟨#[]⟩ none 0 0)
                         clear hE9)
                      | fail)
                    exact bodyPost_ret (v := nV rk rn rf re) (by simp [results, nV, Tryd.f26, go_sem, s0, s1, s2, s3, s4]) rfl ⟨by rw [HV.out], HY.out⟩))

end Go.Proofs.YtlpifchimnnfdaaDoor
