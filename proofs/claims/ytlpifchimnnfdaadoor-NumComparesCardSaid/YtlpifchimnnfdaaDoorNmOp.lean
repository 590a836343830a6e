/- Numbers: the program's Op. -/
import Derived.Test.YtlpifchimnnfdaaDoorNmOpDef
namespace Go.Proofs.YtlpifchimnnfdaaDoor
open Go.RowKit
attribute [local irreducible] Ext
attribute [local go_sem] run_store_float

set_option maxRecDepth 100000 in
set_option maxHeartbeats 4000000 in
theorem pop_bad (sg : ByteArray) (hsg : sgnB sg = false) (k n : Int) (f : Nat) (s : ByteArray) (so : Option Addr) (m cap : Nat) (k' n' : Int) (f' : Nat) (s' : ByteArray) (so' : Option Addr) (m' cap' : Nat) (w : World) :
    Calls Tryd.prog 25 #[.string sg, .agg #[.int .i64 k, .int .i64 n, .float .f64 f, .string s, .slice so m cap], .agg #[.int .i64 k', .int .i64 n', .float .f64 f', .string s', .slice so' m' cap']] w fun e w' => e = .returned (nV 0 0 0 13) ∧ Ext w w' := by
  unfold sgnB at hsg
  simp only [Bool.or_eq_false_iff] at hsg
  obtain ⟨⟨⟨⟨⟨b1, b2⟩, b3⟩, b4⟩, b5⟩, b6⟩ := hsg
  obtain ⟨w3, hw, hO⟩ := op_start w k n f s so m cap k' n' f' s' so' m' cap'
  have HW := Lib.hid hw
  obtain ⟨⟨g0, g1, g2, g3, g4⟩, ⟨a0, a1, a2, a3, a4⟩, s0, s1, s2, s3, s4⟩ := zfacts hO.z 0 0 0
  unfold set5 at s0 s1 s2 s3 s4
  have HY := Lib.hid (ext_set5 (B := w.heap.size + 2) hO.ext (by omega) 0 0 0 ⟨#[]⟩ none 0 0)
  clear hw hO
  go_enter Tryd.func25, Tryd.ntmps25
  go_upto_region 1 with (fail)
  rw [HW.out]
  go_wp2_with fail
  exact bodyPost_ret (v := nV 0 0 0 13) (by simp [results, nV, Tryd.f25, go_sem, s0, s1, s2, s3, s4]) rfl ⟨rfl, HY.out⟩

set_option maxRecDepth 100000 in
set_option maxHeartbeats 40000000 in
theorem pop_good (sg : ByteArray) (hsg : sgnB sg = true) (k n : Int) (f : Nat) (s : ByteArray) (so : Option Addr) (m cap : Nat) (k' n' : Int) (f' : Nat) (s' : ByteArray) (so' : Option Addr) (m' cap' : Nat) (hf : f < 18446744073709551616) (hf' : f' < 18446744073709551616) (w : World) :
    Calls Tryd.prog 25 #[.string sg, .agg #[.int .i64 k, .int .i64 n, .float .f64 f, .string s, .slice so m cap], .agg #[.int .i64 k', .int .i64 n', .float .f64 f', .string s', .slice so' m' cap']] w fun e w' => e = .returned (opV sg k n f (numV k n f s m) k' n' f' (numV k' n' f' s' m')) ∧ Ext w w' := by
  have HS := Lib.hid hsg
  obtain ⟨w3, hw, hO⟩ := op_start w k n f s so m cap k' n' f' s' so' m' cap'
  have HW := Lib.hid hw
  have HO := Lib.hid hO
  have HC1 := Lib.hid (fun w => of_any k n f s so m cap hf w)
  have HC2 := Lib.hid (fun w => of_any k' n' f' s' so' m' cap' hf' w)
  obtain ⟨r, hr⟩ : ∃ r, numV k n f s m = r := ⟨_, rfl⟩
  obtain ⟨r', hr'⟩ : ∃ r, numV k' n' f' s' m' = r := ⟨_, rfl⟩
  rw [hr] at HC1 ⊢
  rw [hr'] at HC2 ⊢
  have HR := Lib.hid (And.intro hr hr')
  clear hw hO hf hf' hsg hr hr'
  go_enter Tryd.func25, Tryd.ntmps25
  go_upto_region 1 with (fail)
  rw [HW.out]
  go_upto_block 0 with (fail)
  go_cut [] from 15 to 22 (fun wx => wx = w3)
  case first =>
    go_wp2_with fail
    all_goals first
      | (go_meet; exact rfl)
      | (have h := HS.out
         unfold sgnB at h
         simp_all)
  case rest =>
    obtain rfl := hcut
    obtain ⟨c0, c1, c2, c3, c4⟩ := HO.out.a.cells
    go_upto_region 10 with (first
      | ((with_reducible refine (HC1.out _).mono ?_)
         rintro e w4 ⟨k1, n1, f1, rfl, hk1, hE4⟩
         unfold ofV
         have hn := NBox.new w4 k1 n1 f1
         have hEx := (Ext.refl w4).alloc (.cells #[.int .i64 k1, .int .i64 n1, .int .u64 f1] 71)
         obtain ⟨w5, hw5⟩ : ∃ w5, w4.alloc (.cells #[.int .i64 k1, .int .i64 n1, .int .u64 f1] 71) = w5 := ⟨_, rfl⟩
         rw [hw5] at hn hEx
         have HO5 := Lib.hid ((HO.out.next hE4).next hEx)
         have HN5 := Lib.hid hn
         have HK1 := Lib.hid hk1
         clear hn hEx hk1 hE4 c0 c1 c2 c3 c4)
      | fail)
    clear hw5
    obtain ⟨c0, c1, c2, c3, c4⟩ := HO5.out.b.cells
    go_upto_region 11 with (first
      | ((with_reducible refine (HC2.out _).mono ?_)
         rintro e w6 ⟨k2, n2, f2, rfl, hk2, hE6⟩
         unfold ofV
         have hn := NBox.new w6 k2 n2 f2
         have hEx := (Ext.refl w6).alloc (.cells #[.int .i64 k2, .int .i64 n2, .int .u64 f2] 71)
         obtain ⟨w7, hw7⟩ : ∃ w7, w6.alloc (.cells #[.int .i64 k2, .int .i64 n2, .int .u64 f2] 71) = w7 := ⟨_, rfl⟩
         rw [hw7] at hn hEx
         have HO7 := Lib.hid ((HO5.out.next hE6).next hEx)
         have HN7 := Lib.hid ((HN5.out.ext hE6).ext hEx)
         have HM7 := Lib.hid hn
         have HK2 := Lib.hid hk2
         clear hn hEx hk2 hE6 c0 c1 c2 c3 c4)
      | fail)
    clear hw7
    have HN7 := HN7.out
    have HM7 := HM7.out
    generalize w4.heap.size = B1 at HN7 ⊢
    generalize w6.heap.size = B2 at HM7 ⊢
    have HC3 := Lib.hid (fun w => whole_any k1 n1 f1 w)
    have HC4 := Lib.hid (fun w => whole_any k2 n2 f2 w)
    obtain ⟨q, hq⟩ : ∃ q, (k1 == 1 && k2 == 1) = q := ⟨_, rfl⟩
    have HQ := Lib.hid hq
    go_cut [12] from 33 to 38 (fun u wx => u = .bool q ∧ Hid (OpAt w wx k n f s so m cap k' n' f' s' so' m' cap' ∧ NBox wx B1 k1 n1 f1 ∧ NBox wx B2 k2 n2 f2))
    case first =>
      obtain ⟨d0, d1, d2⟩ := HN7.cells
      clear hq
      cases hk1 : (k1 == 1)
      · rw [hk1] at HC3 HQ
        rw [Bool.false_and] at HQ
        obtain rfl := HQ.out
        go_wp2_with (first
          | ((with_reducible refine (HC3.out _).mono ?_)
             rintro e w8 ⟨rfl, hE8⟩
             have HE8 := Lib.hid hE8
             clear hE8)
          | fail)
        go_meet
        exact ⟨rfl, Lib.hid ⟨HO7.out.next HE8.out, HN7.ext HE8.out, HM7.ext HE8.out⟩⟩
      · rw [hk1] at HC3 HQ
        rw [Bool.true_and] at HQ
        obtain ⟨q2, hq2⟩ : ∃ q2, (k2 == 1) = q2 := ⟨_, rfl⟩
        rw [hq2] at HC4 HQ
        obtain rfl := HQ.out
        clear hq2
        go_wp2_with (first
          | ((with_reducible refine (HC3.out _).mono ?_)
             rintro e w8 ⟨rfl, hE8⟩
             have HE8 := Lib.hid hE8
             obtain ⟨x0, x1, x2⟩ := (HM7.ext hE8).cells
             clear hE8)
          | ((with_reducible refine (HC4.out _).mono ?_)
             rintro e w9 ⟨rfl, hE9⟩
             have HE9 := Lib.hid (HE8.out.trans hE9)
             clear hE9)
          | fail)
        go_meet
        exact ⟨rfl, Lib.hid ⟨HO7.out.next HE9.out, HN7.ext HE9.out, HM7.ext HE9.out⟩⟩
    case rest =>
      obtain ⟨rfl, HSt⟩ := hcut
      obtain ⟨hO, hN1, hN2⟩ := HSt.out
      clear HO5 HO7 HO HN7 HM7 HN5 HSt HC1 HC2 HC3 HC4 hq HW
      by_cases hrr : (r && r') = false
      · have HV := Lib.hid (show opV sg k n f r k' n' f' r' = nV 0 0 0 11 by unfold opV; rw [if_neg (by rw [HS.out]; decide), if_pos hrr])
        cases r
        · clear hrr
          obtain ⟨⟨g0, g1, g2, g3, g4⟩, ⟨a0, a1, a2, a3, a4⟩, s0, s1, s2, s3, s4⟩ := zfacts hO.z 0 0 0
          unfold set5 at s0 s1 s2 s3 s4
          have HY := Lib.hid (ext_set5 (B := w.heap.size + 2) hO.ext (by omega) 0 0 0 ⟨#[]⟩ none 0 0)
          clear hO hN1 hN2
          cases b5 : (sg.toList == [100, 105, 118]) <;> cases b6 : (sg.toList == [114, 101, 109])
          all_goals go_wp2_with fail
          all_goals exact bodyPost_ret (v := nV 0 0 0 11) (by simp [results, nV, Tryd.f25, go_sem, s0, s1, s2, s3, s4]) rfl ⟨by rw [HV.out], HY.out⟩
        · obtain rfl : r' = false := by simpa using hrr
          clear hrr
          obtain ⟨⟨g0, g1, g2, g3, g4⟩, ⟨a0, a1, a2, a3, a4⟩, s0, s1, s2, s3, s4⟩ := zfacts hO.z 0 0 0
          unfold set5 at s0 s1 s2 s3 s4
          have HY := Lib.hid (ext_set5 (B := w.heap.size + 2) hO.ext (by omega) 0 0 0 ⟨#[]⟩ none 0 0)
          clear hO hN1 hN2
          cases b5 : (sg.toList == [100, 105, 118]) <;> cases b6 : (sg.toList == [114, 101, 109])
          all_goals go_wp2_with fail
          all_goals exact bodyPost_ret (v := nV 0 0 0 11) (by simp [results, nV, Tryd.f25, go_sem, s0, s1, s2, s3, s4]) rfl ⟨by rw [HV.out], HY.out⟩
      · obtain ⟨hr1, hr2⟩ : r = true ∧ r' = true := by simpa using hrr
        subst hr1 hr2
        clear hrr
        obtain ⟨rfl, rfl, rfl⟩ := HK1.out rfl
        obtain ⟨rfl, rfl, rfl⟩ := HK2.out rfl
        clear HK1 HK2
        obtain ⟨d0, d1, d2⟩ := hN1.cells
        obtain ⟨x0, x1, x2⟩ := hN2.cells
        have hV0 : opV sg k1 n1 f true k2 n2 f' true = (if wholeB sg = true then (if (k1 == 1 && k2 == 1) = true then dvV sg n1 n2 else nV 0 0 0 11) else if (k1 == 1 && k2 == 1) = true ∧ (sg.toList == [47]) = false then mkI (exI sg n1 n2) else flV sg (realF k1 n1 f) (realF k2 n2 f')) := by
          unfold opV
          rw [if_neg (by rw [HS.out]; decide), if_neg (by decide)]
        rw [HQ.out] at hV0
        have HV0 := Lib.hid hV0
        clear hV0
        cases b5 : (sg.toList == [100, 105, 118]) <;> cases b6 : (sg.toList == [114, 101, 109])
        · have hwh : wholeB sg = false := by unfold wholeB; rw [b5, b6]; rfl
          cases q
          · cases b4 : (sg.toList == [47])
            · skip
              obtain ⟨rk, rn, rf, re, hmk⟩ := flV_form sg (realF k1 n1 f) (realF k2 n2 f')
              have HV := Lib.hid (show opV sg k1 n1 f true k2 n2 f' true = nV rk rn rf re by rw [HV0.out, hwh]; simp [b4, hmk])
              have HX := Lib.hid (fun w => pfloating_any sg (realF k1 n1 f) (realF k2 n2 f') w)
              rw [hmk] at HX
              have HP1 := Lib.hid (fun w => preal_any k1 n1 f w)
              have HP2 := Lib.hid (fun w => preal_any k2 n2 f' w)
              have HO := Lib.hid hO
              have HN1 := Lib.hid hN1
              have HN2 := Lib.hid hN2
              clear hO hN1 hN2 hmk hwh
              go_wp2_with fail
              go_region_with (first
                | (go_at_call 65; (with_reducible refine (HP1.out _).mono ?_); rintro e w8 ⟨rfl, hE8⟩; have hA8 := (Ext.refl wc).drew.trans hE8; obtain ⟨y0, y1, y2⟩ := (HN2.out.ext hA8).cells)
                | (go_at_call 65; (with_reducible refine (HP2.out _).mono ?_); rintro e w9 ⟨rfl, hE9⟩; have hA9 := hA8.trans hE9)
                | (go_at_call 64
                   (with_reducible refine (HX.out _).mono ?_)
                   rintro e w10 ⟨rfl, hE10⟩
                   have hA10 := hA9.trans hE10
                   unfold nV
                   obtain ⟨⟨g0, g1, g2, g3, g4⟩, ⟨a0, a1, a2, a3, a4⟩, s0, s1, s2, s3, s4⟩ := zfacts (HO.out.z.ext hA10) rk rn rf
                   unfold set5 at s0 s1 s2 s3 s4
                   have HY := Lib.hid (ext_set5 (B := w.heap.size + 2) (HO.out.ext.trans hA10) (by omega) rk rn rf ⟨#[]⟩ none 0 0))
                | fail)
              all_goals go_wp2_with fail
              all_goals exact bodyPost_ret (v := nV rk rn rf re) (by simp [results, nV, Tryd.f25, go_sem, s0, s1, s2, s3, s4]) rfl ⟨by rw [HV.out], HY.out⟩
            · skip
              obtain ⟨rk, rn, rf, re, hmk⟩ := flV_form sg (realF k1 n1 f) (realF k2 n2 f')
              have HV := Lib.hid (show opV sg k1 n1 f true k2 n2 f' true = nV rk rn rf re by rw [HV0.out, hwh]; simp [b4, hmk])
              have HX := Lib.hid (fun w => pfloating_any sg (realF k1 n1 f) (realF k2 n2 f') w)
              rw [hmk] at HX
              have HP1 := Lib.hid (fun w => preal_any k1 n1 f w)
              have HP2 := Lib.hid (fun w => preal_any k2 n2 f' w)
              have HO := Lib.hid hO
              have HN1 := Lib.hid hN1
              have HN2 := Lib.hid hN2
              clear hO hN1 hN2 hmk hwh
              go_wp2_with fail
              go_region_with (first
                | (go_at_call 65; (with_reducible refine (HP1.out _).mono ?_); rintro e w8 ⟨rfl, hE8⟩; have hA8 := (Ext.refl wc).drew.trans hE8; obtain ⟨y0, y1, y2⟩ := (HN2.out.ext hA8).cells)
                | (go_at_call 65; (with_reducible refine (HP2.out _).mono ?_); rintro e w9 ⟨rfl, hE9⟩; have hA9 := hA8.trans hE9)
                | (go_at_call 64
                   (with_reducible refine (HX.out _).mono ?_)
                   rintro e w10 ⟨rfl, hE10⟩
                   have hA10 := hA9.trans hE10
                   unfold nV
                   obtain ⟨⟨g0, g1, g2, g3, g4⟩, ⟨a0, a1, a2, a3, a4⟩, s0, s1, s2, s3, s4⟩ := zfacts (HO.out.z.ext hA10) rk rn rf
                   unfold set5 at s0 s1 s2 s3 s4
                   have HY := Lib.hid (ext_set5 (B := w.heap.size + 2) (HO.out.ext.trans hA10) (by omega) rk rn rf ⟨#[]⟩ none 0 0))
                | fail)
              all_goals go_wp2_with fail
              all_goals exact bodyPost_ret (v := nV rk rn rf re) (by simp [results, nV, Tryd.f25, go_sem, s0, s1, s2, s3, s4]) rfl ⟨by rw [HV.out], HY.out⟩
          · cases b4 : (sg.toList == [47])
            · have h11 : k1 = 1 ∧ k2 = 1 := by have := HQ.out; simpa using this
              obtain ⟨rfl, rfl⟩ := h11
              obtain ⟨rk, rn, rf, re, hmk⟩ := nV_form (.inl (mkI_form (exI sg n1 n2)))
              have HV := Lib.hid (show opV sg 1 n1 f true 1 n2 f' true = nV rk rn rf re by rw [HV0.out, hwh]; simp [b4, hmk])
              have HX := Lib.hid (fun w => pexact_any sg n1 n2 (numV_int HR.out.1) (numV_int HR.out.2) w)
              rw [hmk] at HX
              clear hmk hwh
              have HO := Lib.hid hO
              clear hO hN1 hN2
              go_wp2_with (first
                | (go_at_call 63
                   (with_reducible refine (HX.out _).mono ?_)
                   rintro e w9 ⟨rfl, hE9⟩
                   unfold nV
                   obtain ⟨⟨g0, g1, g2, g3, g4⟩, ⟨a0, a1, a2, a3, a4⟩, s0, s1, s2, s3, s4⟩ := zfacts (HO.out.z.ext hE9) rk rn rf
                   unfold set5 at s0 s1 s2 s3 s4
                   have HY := Lib.hid (ext_set5 (B := w.heap.size + 2) (HO.out.ext.trans hE9) (by omega) rk rn rf ⟨#[]⟩ none 0 0)
                   clear hE9)
                | fail)
              exact bodyPost_ret (v := nV rk rn rf re) (by simp [results, nV, Tryd.f25, go_sem, s0, s1, s2, s3, s4]) rfl ⟨by rw [HV.out], HY.out⟩
            · skip
              obtain ⟨rk, rn, rf, re, hmk⟩ := flV_form sg (realF k1 n1 f) (realF k2 n2 f')
              have HV := Lib.hid (show opV sg k1 n1 f true k2 n2 f' true = nV rk rn rf re by rw [HV0.out, hwh]; simp [b4, hmk])
              have HX := Lib.hid (fun w => pfloating_any sg (realF k1 n1 f) (realF k2 n2 f') w)
              rw [hmk] at HX
              have HP1 := Lib.hid (fun w => preal_any k1 n1 f w)
              have HP2 := Lib.hid (fun w => preal_any k2 n2 f' w)
              have HO := Lib.hid hO
              have HN1 := Lib.hid hN1
              have HN2 := Lib.hid hN2
              clear hO hN1 hN2 hmk hwh
              go_wp2_with fail
              go_region_with (first
                | (go_at_call 65; (with_reducible refine (HP1.out _).mono ?_); rintro e w8 ⟨rfl, hE8⟩; have hA8 := (Ext.refl wc).drew.trans hE8; obtain ⟨y0, y1, y2⟩ := (HN2.out.ext hA8).cells)
                | (go_at_call 65; (with_reducible refine (HP2.out _).mono ?_); rintro e w9 ⟨rfl, hE9⟩; have hA9 := hA8.trans hE9)
                | (go_at_call 64
                   (with_reducible refine (HX.out _).mono ?_)
                   rintro e w10 ⟨rfl, hE10⟩
                   have hA10 := hA9.trans hE10
                   unfold nV
                   obtain ⟨⟨g0, g1, g2, g3, g4⟩, ⟨a0, a1, a2, a3, a4⟩, s0, s1, s2, s3, s4⟩ := zfacts (HO.out.z.ext hA10) rk rn rf
                   unfold set5 at s0 s1 s2 s3 s4
                   have HY := Lib.hid (ext_set5 (B := w.heap.size + 2) (HO.out.ext.trans hA10) (by omega) rk rn rf ⟨#[]⟩ none 0 0))
                | fail)
              all_goals go_wp2_with fail
              all_goals exact bodyPost_ret (v := nV rk rn rf re) (by simp [results, nV, Tryd.f25, go_sem, s0, s1, s2, s3, s4]) rfl ⟨by rw [HV.out], HY.out⟩
        all_goals have hwh : wholeB sg = true := by unfold wholeB; rw [b5, b6]; rfl
        all_goals cases q
        all_goals first
          | (have HV := Lib.hid (show opV sg k1 n1 f true k2 n2 f' true = nV 0 0 0 11 by rw [HV0.out, hwh, if_pos rfl, if_neg (by decide)])
             clear hwh
             obtain ⟨⟨g0, g1, g2, g3, g4⟩, ⟨a0, a1, a2, a3, a4⟩, s0, s1, s2, s3, s4⟩ := zfacts hO.z 0 0 0
             unfold set5 at s0 s1 s2 s3 s4
             have HY := Lib.hid (ext_set5 (B := w.heap.size + 2) hO.ext (by omega) 0 0 0 ⟨#[]⟩ none 0 0)
             clear hO hN1 hN2
             go_wp2_with fail
             exact bodyPost_ret (v := nV 0 0 0 11) (by simp [results, nV, Tryd.f25, go_sem, s0, s1, s2, s3, s4]) rfl ⟨by rw [HV.out], HY.out⟩)
          | (have h11 : k1 = 1 ∧ k2 = 1 := by have := HQ.out; simpa using this
             obtain ⟨rfl, rfl⟩ := h11
             obtain ⟨rk, rn, rf, re, hmk⟩ := dvV_form sg n1 n2
             have HV := Lib.hid (show opV sg 1 n1 f true 1 n2 f' true = nV rk rn rf re by rw [HV0.out, hwh, if_pos rfl, if_pos rfl, hmk])
             have HX := Lib.hid (fun w => pdivided_any sg n1 n2 (numV_int HR.out.1) w)
             rw [hmk] at HX
             clear hmk hwh
             have HO := Lib.hid hO
             clear hO hN1 hN2
             go_wp2_with (first
               | (go_at_call 62
                  (with_reducible refine (HX.out _).mono ?_)
                  rintro e w9 ⟨rfl, hE9⟩
                  unfold nV
                  obtain ⟨⟨g0, g1, g2, g3, g4⟩, ⟨a0, a1, a2, a3, a4⟩, s0, s1, s2, s3, s4⟩ := zfacts (HO.out.z.ext hE9) rk rn rf
                  unfold set5 at s0 s1 s2 s3 s4
                  have HY := Lib.hid (ext_set5 (B := w.heap.size + 2) (HO.out.ext.trans hE9) (by omega) rk rn rf ⟨#[]⟩ none 0 0)
                  clear hE9)
               | fail)
             exact bodyPost_ret (v := nV rk rn rf re) (by simp [results, nV, Tryd.f25, go_sem, s0, s1, s2, s3, s4]) rfl ⟨by rw [HV.out], HY.out⟩)

end Go.Proofs.YtlpifchimnnfdaaDoor
