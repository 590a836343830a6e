/- Walks of the document's word functions: the same plain answers. -/
import Derived.Test.YtlgkofgieceooaaWordWalk
namespace Go.Proofs.Ytlgkofgieceooaa
open Go.RowKit
set_option linter.unusedSimpArgs false

set_option maxHeartbeats 4000000 in
theorem refOf_any (t b : Int) (w : World) (h0 : 0 ≤ t) (h1 : t < 18446744073709551616) :
    Calls Try.prog 11 #[.int .u64 t, .int .i64 b] w fun e w' => e = .returned (.tuple #[.int .u64 (ofR t b).1, .int .i64 (ofR t b).2]) ∧ w' = w := by
  go_enter Try.func11, Try.ntmps11
  go_wp2
  all_goals
    go_ret2
    refine ⟨ret2_of ?_ rfl rfl, rfl⟩
    go_tidy
    try simp only [bne_iff_ne, ne_eq, beq_iff_eq, bne_eq_false_iff_eq, Bool.not_eq_true', Bool.not_eq_false', Bool.not_eq_true, Bool.not_eq_false, Bool.and_eq_true, Bool.or_eq_true, beq_eq_false_iff_ne, decide_eq_true_eq, decide_eq_false_iff_not, Int.not_le, Int.not_lt] at *
    unfold ofR
    first
      | (exfalso; omega)
      | rw [if_pos (by omega)]
      | rw [if_neg (by omega), if_pos (by omega)]
      | (rw [if_neg (by omega), if_neg (by omega)]; exact pair_join (by omega) (by omega) (by omega) (by (try simp only [wrap_u64]); omega))

set_option maxHeartbeats 400000 in
theorem refTag_any (u : Int) (w : World) (h0 : 0 ≤ u) (h1 : u < 18446744073709551616) :
    Calls Try.prog 15 #[.int .u64 u] w fun e w' => e = .returned (.int .u64 (u % 16)) ∧ w' = w := by
  go_enter Try.func15, Try.ntmps15
  go_wp2
  go_ret
  exact ⟨ret_num (and15 h0 h1), rfl⟩

set_option maxHeartbeats 1000000 in
theorem refBody_any (u : Int) (w : World) (h0 : 0 ≤ u) (h1 : u < 18446744073709551616) :
    Calls Try.prog 17 #[.int .u64 u] w fun e w' => e = .returned (.int .i64 (bodyR u)) ∧ w' = w := by
  by_cases h : u % 16 = 1
  · have hb : (u % 16 == 1) = true := by simpa using h
    by_cases hg : 576460752303423488 ≤ u / 16
    all_goals
      have HH := Lib.hid h
      go_enter Try.func17, Try.ntmps17
      go_wp2_with (go_at_call 15; refine (refTag_any _ _ h0 h1).mono ?_; rintro e w' ⟨rfl, rfl⟩)
      go_ret
      refine ⟨ret_num ?_, rfl⟩
      have h' := HH.out
      unfold bodyR
      try unfold wrap64
      split <;> omega
  · have hb : (u % 16 == 1) = false := by simpa using h
    go_enter Try.func17, Try.ntmps17
    go_wp2_with (go_at_call 15; refine (refTag_any _ _ h0 h1).mono ?_; rintro e w' ⟨rfl, rfl⟩)
    go_ret
    refine ⟨ret_num ?_, rfl⟩
    unfold bodyR
    split <;> omega

set_option maxHeartbeats 1000000 in
theorem refRight_any (u : Int) (w : World) (h0 : 0 ≤ u) (h1 : u < 18446744073709551616) :
    Calls Try.prog 19 #[.int .u64 u] w fun e w' => e = .returned (.bool (rightR u)) ∧ w' = w := by
  by_cases he : (ofR (u % 16) (bodyR u)).2 = 0
  all_goals
    have hb : ((ofR (u % 16) (bodyR u)).2 == 0) = decide ((ofR (u % 16) (bodyR u)).2 = 0) := rfl
    first | rw [decide_eq_true he] at hb | rw [decide_eq_false he] at hb
    have HE := Lib.hid he
    clear he
    go_enter Try.func19, Try.ntmps19
    go_wp2_with (first
      | (go_at_call 15; refine (refTag_any _ _ h0 h1).mono ?_; rintro e w' ⟨rfl, rfl⟩)
      | (go_at_call 17; refine (refBody_any _ _ h0 h1).mono ?_; rintro e w' ⟨rfl, rfl⟩)
      | (go_at_call 11; refine (refOf_any _ _ _ (by omega) (by omega)).mono ?_; rintro e w' ⟨rfl, rfl⟩))
    go_ret
    refine ⟨ret_bool ?_, rfl⟩
    have he := HE.out
    unfold rightR
    simp [Prod.ext_iff, he]
    try rfl

set_option maxHeartbeats 2000000 in
theorem refHeader_any (k s : Int) (w : World) (hk0 : -9223372036854775808 ≤ k) (hk1 : k ≤ 9223372036854775807) :
    Calls Try.prog 21 #[.int .i64 k, .int .i64 s] w fun e w' => e = .returned (.tuple #[.int .u64 (headerR k s).1, .int .i64 (headerR k s).2]) ∧ w' = w := by
  by_cases hk : k = 2 ∨ k = 4 ∨ k = 5 ∨ k = 7
  · by_cases hs : s < 0 ∨ 65536 < s
    · have hR : headerR k s = (0, 12) := by unfold headerR; rw [if_neg (fun h => h hk), if_pos hs]
      rw [hR]
      rcases hk with rfl | rfl | rfl | rfl
      all_goals
        clear hR
        go_enter Try.func21, Try.ntmps21
        go_wp2_with fail
        all_goals first | (go_ret2; exact ⟨rfl, rfl⟩) | (exfalso; omega)
    · have hR : headerR k s = ofR 7 (16 * s + k) := by unfold headerR; rw [if_neg (fun h => h hk), if_neg hs]
      rw [hR]
      have hs0 : 0 ≤ s := by omega
      have hs1 : s ≤ 65536 := by omega
      clear hs hR
      rcases hk with rfl | rfl | rfl | rfl
      all_goals
        go_enter Try.func21, Try.ntmps21
        go_wp2_with (go_at_call 11; refine (refOf_any _ _ _ (by omega) (by omega)).mono ?_; rintro e w' ⟨rfl, rfl⟩)
        go_ret2
        exact ⟨rfl, rfl⟩
  · have hR : headerR k s = (0, 1) := by unfold headerR; rw [if_pos hk]
    rw [hR]
    have h2 : (k != 2) = true := by simp; omega
    have h4 : (k != 4) = true := by simp; omega
    have h5 : (k != 5) = true := by simp; omega
    have h7 : (k != 7) = true := by simp; omega
    clear hk hR
    go_enter Try.func21, Try.ntmps21
    go_wp2_with fail
    go_ret2
    exact ⟨rfl, rfl⟩

theorem look_big {u : Int} (h : 1048591 < u / 16) : lookR u = (0, 0, false) := by
  unfold lookR
  rw [if_neg]
  rintro ⟨_, h2⟩
  have e := congrArg Prod.snd h2
  simp only [headerR] at e
  split at e
  · simp at e
  · rw [if_pos (by omega)] at e
    simp at e

set_option maxHeartbeats 2000000 in
theorem isHeader_any (u : Int) (w : World) (h0 : 0 ≤ u) (h1 : u < 18446744073709551616) :
    Calls Try.prog 13 #[.int .u64 u] w fun e w' => e = .returned (.tuple #[.int .i64 (lookR u).1, .int .i64 (lookR u).2.1, .bool (lookR u).2.2]) ∧ w' = w := by
  by_cases ht : u % 16 = 7
  · have hbd : bodyR u = u / 16 := by unfold bodyR; rw [if_neg (by omega)]
    have hb : (u % 16 != 7) = false := by simpa using ht
    have hbo : ∀ w, Calls Try.prog 17 #[.int .u64 u] w fun e w' => e = .returned (.int .i64 (u / 16)) ∧ w' = w := fun w => by
      have := refBody_any u w h0 h1
      rwa [hbd] at this
    have h16 : 0 ≤ u / 16 := by omega
    by_cases hr : u / 16 ≤ 1048591
    · have hR : lookR u = if headerR (u / 16 % 16) (u / 16 / 16) = (u, 0) then (u / 16 % 16, u / 16 / 16, true) else (0, 0, false) := by
        unfold lookR
        simp only [ht, true_and]
      rw [hR]
      clear hR hbd ht
      have hhd : ∀ w, Calls Try.prog 21 #[.int .i64 (u / 16 % 16), .int .i64 (u / 16 / 16)] w fun e w' => e = .returned (.tuple #[.int .u64 (headerR (u / 16 % 16) (u / 16 / 16)).1, .int .i64 (headerR (u / 16 % 16) (u / 16 / 16)).2]) ∧ w' = w := fun w => refHeader_any _ _ w (by omega) (by omega)
      by_cases he : (headerR (u / 16 % 16) (u / 16 / 16)).2 = 0
      · by_cases hx : (headerR (u / 16 % 16) (u / 16 / 16)).1 = u
        · rw [if_pos (Prod.ext hx he)]
          have he' : ((headerR (u / 16 % 16) (u / 16 / 16)).2 != 0) = false := by simpa using he
          have hx' : ((headerR (u / 16 % 16) (u / 16 / 16)).1 != u) = false := by simpa using hx
          clear he hx
          go_enter Try.func13, Try.ntmps13
          go_wp2_with (first
            | (go_at_call 15; refine (refTag_any _ _ h0 h1).mono ?_; rintro e w' ⟨rfl, rfl⟩)
            | (go_at_call 17; refine (hbo _).mono ?_; rintro e w' ⟨rfl, rfl⟩)
            | (go_at_call 21; refine (hhd _).mono ?_; rintro e w' ⟨rfl, rfl⟩))
          go_ret3
          exact ⟨rfl, rfl⟩
        · rw [if_neg (fun h => hx (congrArg Prod.fst h))]
          have he' : ((headerR (u / 16 % 16) (u / 16 / 16)).2 != 0) = false := by simpa using he
          have hx' : ((headerR (u / 16 % 16) (u / 16 / 16)).1 != u) = true := by simpa using hx
          clear he hx
          go_enter Try.func13, Try.ntmps13
          go_wp2_with (first
            | (go_at_call 15; refine (refTag_any _ _ h0 h1).mono ?_; rintro e w' ⟨rfl, rfl⟩)
            | (go_at_call 17; refine (hbo _).mono ?_; rintro e w' ⟨rfl, rfl⟩)
            | (go_at_call 21; refine (hhd _).mono ?_; rintro e w' ⟨rfl, rfl⟩))
          go_ret3
          exact ⟨rfl, rfl⟩
      · rw [if_neg (fun h => he (congrArg Prod.snd h))]
        have he' : ((headerR (u / 16 % 16) (u / 16 / 16)).2 != 0) = true := by simpa using he
        clear he
        go_enter Try.func13, Try.ntmps13
        go_wp2_with (first
          | (go_at_call 15; refine (refTag_any _ _ h0 h1).mono ?_; rintro e w' ⟨rfl, rfl⟩)
          | (go_at_call 17; refine (hbo _).mono ?_; rintro e w' ⟨rfl, rfl⟩)
          | (go_at_call 21; refine (hhd _).mono ?_; rintro e w' ⟨rfl, rfl⟩))
        go_ret3
        exact ⟨rfl, rfl⟩
    · have hR := look_big (u := u) (by omega)
      rw [hR]
      have hr' : 1048591 < u / 16 := by omega
      clear hR ht hbd hr
      go_enter Try.func13, Try.ntmps13
      go_wp2_with (first
        | (go_at_call 15; refine (refTag_any _ _ h0 h1).mono ?_; rintro e w' ⟨rfl, rfl⟩)
        | (go_at_call 17; refine (hbo _).mono ?_; rintro e w' ⟨rfl, rfl⟩))
      go_ret3
      exact ⟨rfl, rfl⟩
  · have hR : lookR u = (0, 0, false) := by unfold lookR; rw [if_neg (by omega)]
    rw [hR]
    have hb : (u % 16 != 7) = true := by simpa using ht
    clear ht hR
    go_enter Try.func13, Try.ntmps13
    go_wp2_with (go_at_call 15; refine (refTag_any _ _ h0 h1).mono ?_; rintro e w' ⟨rfl, rfl⟩)
    go_ret3
    exact ⟨rfl, rfl⟩

end Go.Proofs.Ytlgkofgieceooaa
