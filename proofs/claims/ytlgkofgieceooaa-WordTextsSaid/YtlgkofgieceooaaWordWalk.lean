/- Walks of the word layer's functions of numbers: of the program's and of the document's. -/
import Derived.Test.YtlgkofgieceooaaWordPure
import Derived.Lib.Hide
import Derived.Deep.QuietTactic
import Derived.BigQuiet
import Derived.Deep.Draws
namespace Go.Proofs.Ytlgkofgieceooaa
open Go.RowKit
set_option linter.unusedSimpArgs false

set_option maxHeartbeats 4000000 in
theorem of_any (t b : Int) (w : World) (h0 : 0 ≤ t) (h1 : t < 18446744073709551616) :
    Calls Try.prog 10 #[.int .u64 t, .int .i64 b] w fun e w' => e = .returned (.tuple #[.int .u64 (ofR t b).1, .int .i64 (ofR t b).2]) ∧ w' = w := by
  go_enter Try.func10, Try.ntmps10
  go_wp2
  all_goals
    go_ret2
    refine ⟨ret2_of ?_ rfl rfl, rfl⟩
    go_tidy
    try simp only [bne_iff_ne, ne_eq, beq_iff_eq, bne_eq_false_iff_eq, Bool.not_eq_true', Bool.not_eq_false', Bool.not_eq_true, Bool.not_eq_false, Bool.and_eq_true, Bool.or_eq_true, beq_eq_false_iff_ne, decide_eq_true_eq, decide_eq_false_iff_not, Int.not_le, Int.not_lt] at *
    unfold ofR
    first
      | (exfalso; omega)
      | rw [if_pos (by omega)]
      | rw [if_neg (by omega), if_pos (by omega)]
      | (rw [if_neg (by omega), if_neg (by omega)]; exact pair_join (by omega) (by omega) (by omega) (by (try simp only [wrap_u64]); omega))

set_option maxHeartbeats 400000 in
theorem tag_any (u : Int) (w : World) (h0 : 0 ≤ u) (h1 : u < 18446744073709551616) :
    Calls Try.prog 14 #[.int .u64 u] w fun e w' => e = .returned (.int .u64 (u % 16)) ∧ w' = w := by
  go_enter Try.func14, Try.ntmps14
  go_wp2
  go_ret
  exact ⟨ret_num (and15 h0 h1), rfl⟩

set_option maxHeartbeats 400000 in
theorem body_any (u : Int) (w : World) (h0 : 0 ≤ u) (h1 : u < 18446744073709551616) :
    Calls Try.prog 16 #[.int .u64 u] w fun e w' => e = .returned (.int .i64 (bodyR u)) ∧ w' = w := by
  by_cases h : u % 16 = 1
  all_goals
    have hb : (u % 16 == 1) = decide (u % 16 = 1) := rfl
    first | rw [decide_eq_true h] at hb | rw [decide_eq_false h] at hb
    go_enter Try.func16, Try.ntmps16
    go_wp2_with (go_at_call 14; refine (tag_any _ _ h0 h1).mono ?_; rintro e w' ⟨rfl, rfl⟩)
    go_ret
    refine ⟨ret_num ?_, rfl⟩
    unfold bodyR
    try unfold wrap64
    split <;> omega

set_option maxHeartbeats 1000000 in
theorem right_any (u : Int) (w : World) (h0 : 0 ≤ u) (h1 : u < 18446744073709551616) :
    Calls Try.prog 18 #[.int .u64 u] w fun e w' => e = .returned (.bool (rightR u)) ∧ w' = w := by
  by_cases he : (ofR (u % 16) (bodyR u)).2 = 0
  all_goals
    have hb : ((ofR (u % 16) (bodyR u)).2 == 0) = decide ((ofR (u % 16) (bodyR u)).2 = 0) := rfl
    first | rw [decide_eq_true he] at hb | rw [decide_eq_false he] at hb
    have HE := Lib.hid he
    clear he
    go_enter Try.func18, Try.ntmps18
    go_wp2_with (first
      | (go_at_call 14; refine (tag_any _ _ h0 h1).mono ?_; rintro e w' ⟨rfl, rfl⟩)
      | (go_at_call 16; refine (body_any _ _ h0 h1).mono ?_; rintro e w' ⟨rfl, rfl⟩)
      | (go_at_call 10; refine (of_any _ _ _ (by omega) (by omega)).mono ?_; rintro e w' ⟨rfl, rfl⟩))
    go_ret
    refine ⟨ret_bool ?_, rfl⟩
    have he := HE.out
    unfold rightR
    simp [Prod.ext_iff, he]
    try rfl

set_option maxHeartbeats 2000000 in
theorem header_any (k s : Int) (w : World) (hk0 : -9223372036854775808 ≤ k) (hk1 : k ≤ 9223372036854775807) :
    Calls Try.prog 20 #[.int .i64 k, .int .i64 s] w fun e w' => e = .returned (.tuple #[.int .u64 (headerR k s).1, .int .i64 (headerR k s).2]) ∧ w' = w := by
  by_cases hk : k = 2 ∨ k = 4 ∨ k = 5 ∨ k = 7
  · by_cases hs : s < 0 ∨ 65536 < s
    · have hR : headerR k s = (0, 12) := by unfold headerR; rw [if_neg (fun h => h hk), if_pos hs]
      rw [hR]
      rcases hk with rfl | rfl | rfl | rfl
      all_goals
        clear hR
        go_enter Try.func20, Try.ntmps20
        go_wp2_with fail
        all_goals first | (go_ret2; exact ⟨rfl, rfl⟩) | (exfalso; omega)
    · have hR : headerR k s = ofR 7 (16 * s + k) := by unfold headerR; rw [if_neg (fun h => h hk), if_neg hs]
      rw [hR]
      have hs0 : 0 ≤ s := by omega
      have hs1 : s ≤ 65536 := by omega
      clear hs hR
      rcases hk with rfl | rfl | rfl | rfl
      all_goals
        go_enter Try.func20, Try.ntmps20
        go_wp2_with (go_at_call 10; refine (of_any _ _ _ (by omega) (by omega)).mono ?_; rintro e w' ⟨rfl, rfl⟩)
        go_ret2
        exact ⟨rfl, rfl⟩
  · have hR : headerR k s = (0, 1) := by unfold headerR; rw [if_pos hk]
    rw [hR]
    have h2 : (k == 2) = false := by simp; omega
    have h4 : (k == 4) = false := by simp; omega
    have h5 : (k == 5) = false := by simp; omega
    have h7 : (k == 7) = false := by simp; omega
    clear hk hR
    go_enter Try.func20, Try.ntmps20
    go_wp2_with fail
    go_ret2
    exact ⟨rfl, rfl⟩

theorem right_seven {u : Int} (h0 : 0 ≤ u) (h1 : u < 18446744073709551616) (ht : u % 16 = 7) : rightR u = decide (u / 16 ≤ 1099511627776) := by
  have hb : bodyR u = u / 16 := by unfold bodyR; rw [if_neg (by omega)]
  unfold rightR
  rw [hb, ht]
  unfold ofR
  rw [if_neg (by omega)]
  by_cases h : u / 16 ≤ 1099511627776
  · rw [if_neg (by omega), decide_eq_true h]
    unfold wordOf
    simp
    omega
  · rw [if_pos (by omega), decide_eq_false h]
    simp

theorem look_no {u : Int} (h : ¬ u / 16 ≤ 1099511627776) : lookR u = (0, 0, false) := by
  unfold lookR
  rw [if_neg]
  rintro ⟨_, h2⟩
  have e := congrArg Prod.snd h2
  simp only [headerR] at e
  split at e
  · simp at e
  · rw [if_pos (by omega)] at e
    simp at e

set_option maxHeartbeats 2000000 in
theorem look_any (u : Int) (w : World) (h0 : 0 ≤ u) (h1 : u < 18446744073709551616) :
    Calls Try.prog 12 #[.int .u64 u] w fun e w' => e = .returned (.tuple #[.int .i64 (lookR u).1, .int .i64 (lookR u).2.1, .bool (lookR u).2.2]) ∧ w' = w := by
  by_cases ht : u % 16 = 7
  · by_cases hr : u / 16 ≤ 1099511627776
    · have hr' : rightR u = true := by rw [right_seven h0 h1 ht, decide_eq_true hr]
      have hbd : bodyR u = u / 16 := by unfold bodyR; rw [if_neg (by omega)]
      have hb : (u % 16 != 7) = false := by simpa using ht
      have hs : ∀ w, Calls Try.prog 18 #[.int .u64 u] w fun e w' => e = .returned (.bool true) ∧ w' = w := fun w => by
        have := right_any u w h0 h1
        rwa [hr'] at this
      have hbo : ∀ w, Calls Try.prog 16 #[.int .u64 u] w fun e w' => e = .returned (.int .i64 (u / 16)) ∧ w' = w := fun w => by
        have := body_any u w h0 h1
        rwa [hbd] at this
      have hR : lookR u = if headerR (u / 16 % 16) (u / 16 / 16) = (u, 0) then (u / 16 % 16, u / 16 / 16, true) else (0, 0, false) := by
        unfold lookR
        simp only [ht, true_and]
      rw [hR]
      have h16 : 0 ≤ u / 16 := by omega
      clear hR hr' hbd ht
      have hhd : ∀ w, Calls Try.prog 20 #[.int .i64 (u / 16 % 16), .int .i64 (u / 16 / 16)] w fun e w' => e = .returned (.tuple #[.int .u64 (headerR (u / 16 % 16) (u / 16 / 16)).1, .int .i64 (headerR (u / 16 % 16) (u / 16 / 16)).2]) ∧ w' = w := fun w => header_any _ _ w (by omega) (by omega)
      by_cases he : (headerR (u / 16 % 16) (u / 16 / 16)).2 = 0
      · by_cases hx : (headerR (u / 16 % 16) (u / 16 / 16)).1 = u
        · rw [if_pos (Prod.ext hx he)]
          have he' : ((headerR (u / 16 % 16) (u / 16 / 16)).2 != 0) = false := by simpa using he
          have hx' : ((headerR (u / 16 % 16) (u / 16 / 16)).1 != u) = false := by simpa using hx
          clear he hx
          go_enter Try.func12, Try.ntmps12
          go_wp2_with (first
            | (go_at_call 14; refine (tag_any _ _ h0 h1).mono ?_; rintro e w' ⟨rfl, rfl⟩)
            | (go_at_call 18; refine (hs _).mono ?_; rintro e w' ⟨rfl, rfl⟩)
            | (go_at_call 16; refine (hbo _).mono ?_; rintro e w' ⟨rfl, rfl⟩)
            | (go_at_call 20; refine (hhd _).mono ?_; rintro e w' ⟨rfl, rfl⟩))
          go_ret3
          exact ⟨rfl, rfl⟩
        · rw [if_neg (fun h => hx (congrArg Prod.fst h))]
          have he' : ((headerR (u / 16 % 16) (u / 16 / 16)).2 != 0) = false := by simpa using he
          have hx' : ((headerR (u / 16 % 16) (u / 16 / 16)).1 != u) = true := by simpa using hx
          clear he hx
          go_enter Try.func12, Try.ntmps12
          go_wp2_with (first
            | (go_at_call 14; refine (tag_any _ _ h0 h1).mono ?_; rintro e w' ⟨rfl, rfl⟩)
            | (go_at_call 18; refine (hs _).mono ?_; rintro e w' ⟨rfl, rfl⟩)
            | (go_at_call 16; refine (hbo _).mono ?_; rintro e w' ⟨rfl, rfl⟩)
            | (go_at_call 20; refine (hhd _).mono ?_; rintro e w' ⟨rfl, rfl⟩))
          go_ret3
          exact ⟨rfl, rfl⟩
      · rw [if_neg (fun h => he (congrArg Prod.snd h))]
        have he' : ((headerR (u / 16 % 16) (u / 16 / 16)).2 != 0) = true := by simpa using he
        clear he
        go_enter Try.func12, Try.ntmps12
        go_wp2_with (first
          | (go_at_call 14; refine (tag_any _ _ h0 h1).mono ?_; rintro e w' ⟨rfl, rfl⟩)
          | (go_at_call 18; refine (hs _).mono ?_; rintro e w' ⟨rfl, rfl⟩)
          | (go_at_call 16; refine (hbo _).mono ?_; rintro e w' ⟨rfl, rfl⟩)
          | (go_at_call 20; refine (hhd _).mono ?_; rintro e w' ⟨rfl, rfl⟩))
        go_ret3
        exact ⟨rfl, rfl⟩
    · have hR := look_no hr
      rw [hR]
      have hr' : rightR u = false := by rw [right_seven h0 h1 ht, decide_eq_false hr]
      have hb : (u % 16 != 7) = false := by simpa using ht
      have hs : ∀ w, Calls Try.prog 18 #[.int .u64 u] w fun e w' => e = .returned (.bool false) ∧ w' = w := fun w => by
        have := right_any u w h0 h1
        rwa [hr'] at this
      clear hR hr' hr ht
      go_enter Try.func12, Try.ntmps12
      go_wp2_with (first
        | (go_at_call 14; refine (tag_any _ _ h0 h1).mono ?_; rintro e w' ⟨rfl, rfl⟩)
        | (go_at_call 18; refine (hs _).mono ?_; rintro e w' ⟨rfl, rfl⟩))
      go_ret3
      exact ⟨rfl, rfl⟩
  · have hR : lookR u = (0, 0, false) := by unfold lookR; rw [if_neg (by omega)]
    rw [hR]
    have hb : (u % 16 != 7) = true := by simpa using ht
    clear ht hR
    go_enter Try.func12, Try.ntmps12
    go_wp2_with (go_at_call 14; refine (tag_any _ _ h0 h1).mono ?_; rintro e w' ⟨rfl, rfl⟩)
    go_ret3
    exact ⟨rfl, rfl⟩

end Go.Proofs.Ytlgkofgieceooaa
