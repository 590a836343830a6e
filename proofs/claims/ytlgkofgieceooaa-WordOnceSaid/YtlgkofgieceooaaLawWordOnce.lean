/- WordOnce: a right word is Of its tag and body; unlike right words have unlike ones; words of whole numbers are in the numbers' order. No conditions. -/
import Derived.Test.YtlgkofgieceooaaLift
import Derived.Test.YtlgkofgieceooaaKnown3
namespace Go.Proofs.Ytlgkofgieceooaa
open Go.ChangeShapes Go.WideShapes Go.ChangeAt Go.RowKit

theorem once_right (u : Int) :
    (((ofR (u % 16) (bodyR u)).2 == 0) = true ∧ ((ofR (u % 16) (bodyR u)).1 == u) = true ∧ rightR u = true) ∨
    (((ofR (u % 16) (bodyR u)).2 == 0) = true ∧ ((ofR (u % 16) (bodyR u)).1 == u) = false ∧ rightR u = false) ∨
    (((ofR (u % 16) (bodyR u)).2 == 0) = false ∧ rightR u = false) := by
  unfold rightR
  by_cases h : (ofR (u % 16) (bodyR u)).2 = 0
  · by_cases h1 : (ofR (u % 16) (bodyR u)).1 = u
    · exact .inl ⟨by simp [h], by simp [h1], by simp [Prod.ext_iff, h, h1]⟩
    · exact .inr (.inl ⟨by simp [h], by simp [h1], by simp [Prod.ext_iff, h, h1]⟩)
  · exact .inr (.inr ⟨by simp [h], by simp [Prod.ext_iff, h]⟩)

theorem right_inj {u v : Int} (hu : rightR u = true) (hv : rightR v = true) (ht : u % 16 = v % 16) (hb : bodyR u = bodyR v) : u = v := by
  unfold rightR at hu hv
  simp only [decide_eq_true_eq] at hu hv
  rw [ht, hb, hv] at hu
  exact (congrArg Prod.fst hu).symm

/-- Of two words, both right: alike, or parted by tag, or parted by body. -/
theorem once_two {u v : Int} (hu : rightR u = true) (hv : rightR v = true) :
    ((u == v) = true ∧ (u % 16 == v % 16) = true ∧ (bodyR u == bodyR v) = true) ∨
    ((u == v) = false ∧ (u % 16 == v % 16) = false) ∨
    ((u == v) = false ∧ (u % 16 == v % 16) = true ∧ (bodyR u == bodyR v) = false) := by
  by_cases h : u = v
  · subst h
    exact .inl ⟨by simp, by simp, by simp⟩
  · by_cases ht : u % 16 = v % 16
    · have hb : bodyR u ≠ bodyR v := fun hb => h (right_inj hu hv ht hb)
      exact .inr (.inr ⟨by simp [h], by simp [ht], by simp [hb]⟩)
    · exact .inr (.inl ⟨by simp [h], by simp [ht]⟩)

def okInt (a : Int) : Prop := -576460752303423488 ≤ a ∧ a ≤ 576460752303423487

theorem of_int_ok {a : Int} (h : okInt a) : ofR 1 a = (wordOf 1 a, 0) := by
  unfold okInt at h
  unfold ofR
  rw [if_neg (by omega), if_neg (by omega)]

theorem of_int_no {a : Int} (h : ¬ okInt a) : ofR 1 a = (0, 12) := by
  unfold okInt at h
  unfold ofR
  rw [if_neg (by omega), if_pos (by omega)]

theorem word_tag (a : Int) : wordOf 1 a % 16 = 1 := by unfold wordOf; omega

theorem word_body {a : Int} (h : okInt a) : bodyR (wordOf 1 a) = a := by
  unfold okInt at h
  unfold bodyR wordOf
  split <;> omega

theorem word_shift {a : Int} (h : okInt a) : wrap64 (wordOf 1 a) / 16 = a := by
  unfold okInt at h
  unfold wrap64 wordOf
  omega

theorem word_right {a : Int} (h : okInt a) : rightR (wordOf 1 a) = true := by
  unfold rightR
  rw [word_tag, word_body h, of_int_ok h]
  simp

/-- The two words of whole numbers. -/
theorem once_ints (a b : Int) : (ofR 1 a = (0, 12)) ∨ (ofR 1 a = (wordOf 1 a, 0) ∧ ofR 1 b = (0, 12)) ∨
    (ofR 1 a = (wordOf 1 a, 0) ∧ ofR 1 b = (wordOf 1 b, 0) ∧ wrap64 (wordOf 1 a) / 16 = a ∧ wrap64 (wordOf 1 b) / 16 = b ∧ bodyR (wordOf 1 a) = a ∧ wordOf 1 a % 16 = 1 ∧ rightR (wordOf 1 a) = true) := by
  by_cases ha : okInt a
  · by_cases hb : okInt b
    · exact .inr (.inr ⟨of_int_ok ha, of_int_ok hb, word_shift ha, word_shift hb, word_body ha, word_tag a, word_right ha⟩)
    · exact .inr (.inl ⟨of_int_ok ha, of_int_no hb⟩)
  · exact .inl (of_int_no ha)

/-- What the walk is told of the first two words. -/
def Told2 (u v : Int) : Prop :=
  (((ofR (u % 16) (bodyR u)).2 == 0) = true ∧ ((ofR (u % 16) (bodyR u)).1 == u) = true ∧ rightR u = true ∧ rightR v = true ∧ (u == v) = true ∧ (u % 16 == v % 16) = true ∧ (bodyR u == bodyR v) = true) ∨
  (((ofR (u % 16) (bodyR u)).2 == 0) = true ∧ ((ofR (u % 16) (bodyR u)).1 == u) = true ∧ rightR u = true ∧ rightR v = true ∧ (u == v) = false ∧ (u % 16 == v % 16) = false) ∨
  (((ofR (u % 16) (bodyR u)).2 == 0) = true ∧ ((ofR (u % 16) (bodyR u)).1 == u) = true ∧ rightR u = true ∧ rightR v = true ∧ (u == v) = false ∧ (u % 16 == v % 16) = true ∧ (bodyR u == bodyR v) = false) ∨
  (((ofR (u % 16) (bodyR u)).2 == 0) = true ∧ ((ofR (u % 16) (bodyR u)).1 == u) = true ∧ rightR u = true ∧ rightR v = false) ∨
  (((ofR (u % 16) (bodyR u)).2 == 0) = true ∧ ((ofR (u % 16) (bodyR u)).1 == u) = false ∧ rightR u = false) ∨
  (((ofR (u % 16) (bodyR u)).2 == 0) = false ∧ rightR u = false)

theorem told2 (u v : Int) : Told2 u v := by
  unfold Told2
  rcases once_right u with ⟨h1, h2, h3⟩ | h | h
  · cases hv : rightR v with
    | false => simp only [h1, h2, h3, and_true, Bool.false_eq_true, false_and, and_false, false_or, true_or, or_true, reduceCtorEq]
    | true =>
      rcases once_two h3 hv with h | h | h
      · exact .inl ⟨h1, h2, h3, rfl, h⟩
      · exact .inr (.inl ⟨h1, h2, h3, rfl, h⟩)
      · exact .inr (.inr (.inl ⟨h1, h2, h3, rfl, h⟩))
  · exact .inr (.inr (.inr (.inr (.inl h))))
  · exact .inr (.inr (.inr (.inr (.inr h))))

set_option maxHeartbeats 4000000 in
set_option maxRecDepth 100000 in
theorem wordOnce_any (u v a b : Int) (w : World) (h0 : 0 ≤ u) (h1 : u < 18446744073709551616) (h2 : 0 ≤ v) (h3 : v < 18446744073709551616) :
    Calls Try.prog 6 #[.int .u64 u, .int .u64 v, .int .i64 a, .int .i64 b] w fun e w' => e = .returned (.bool true) ∧ Mod (fun _ => False) w w' := by
  have hoa : ∀ w, Calls Try.prog 10 #[.int .u64 1, .int .i64 a] w fun e w' => e = .returned (.tuple #[.int .u64 (ofR 1 a).1, .int .i64 (ofR 1 a).2]) ∧ w' = w := fun w => of_any 1 a w (by decide) (by decide)
  have hob : ∀ w, Calls Try.prog 10 #[.int .u64 1, .int .i64 b] w fun e w' => e = .returned (.tuple #[.int .u64 (ofR 1 b).1, .int .i64 (ofR 1 b).2]) ∧ w' = w := fun w => of_any 1 b w (by decide) (by decide)
  have hou : ∀ w, Calls Try.prog 10 #[.int .u64 (u % 16), .int .i64 (bodyR u)] w fun e w' => e = .returned (.tuple #[.int .u64 (ofR (u % 16) (bodyR u)).1, .int .i64 (ofR (u % 16) (bodyR u)).2]) ∧ w' = w := fun w => of_any _ _ w (by omega) (by omega)
  have hw0 := wordOf_range (t := 1) (b := a) (by decide) (by decide)
  have h4 := hw0.1
  have h5 := hw0.2
  have hT := told2 u v
  unfold Told2 at hT
  have hI := once_ints a b
  clear hw0
  rcases hT with ⟨e1, e2, e3, e4, e5, e6, e7⟩ | ⟨e1, e2, e3, e4, e5, e6⟩ | ⟨e1, e2, e3, e4, e5, e6, e7⟩ | ⟨e1, e2, e3, e4⟩ | ⟨e1, e2, e3⟩ | ⟨e1, e2⟩
  all_goals rcases hI with i1 | ⟨i1, i2⟩ | ⟨i1, i2, i3, i4, i5, i6, i7⟩
  all_goals
    (try rw [i1] at hoa)
    (try rw [i2] at hob)
    clear i1
    try clear i2
    go_enter Try.func6, Try.ntmps6
    go_wp2_with (first
      | (go_at_call 9; refine (known_any _).mono ?_; rintro e w1 ⟨rfl, hM⟩)
      | (go_at_call 14; refine (tag_any _ _ (by assumption) (by assumption)).mono ?_; rintro e w' ⟨rfl, rfl⟩)
      | (go_at_call 16; refine (body_any _ _ (by assumption) (by assumption)).mono ?_; rintro e w' ⟨rfl, rfl⟩)
      | (go_at_call 18; refine (right_any _ _ (by assumption) (by assumption)).mono ?_; rintro e w' ⟨rfl, rfl⟩)
      | (go_at_call 10; (first | with_reducible refine (hou _).mono ?_ | with_reducible refine (hoa _).mono ?_ | with_reducible refine (hob _).mono ?_); rintro e w' ⟨rfl, rfl⟩))
    go_ret
    exact ⟨rfl, by assumption⟩

theorem wordOnce_lifted (os : Os) (started : os.Started) (H : Type) (enc : TypeId × Value → H) :
    ReturnsInHanded {} Try.checked os 6 .any (Rows.wordOnceSpec.pre6 enc Try.prog Try.f6 Rows.wordOnceRow.domain false) (Rows.wordOnceSpec.post enc Try.prog Try.f6 false true false false) := by
  refine lift_law started 6 Try.f6 Rows.wordOnceSpec (by kernel_rfl) Try.func6 rfl rfl (by decide +kernel) ?_
    (ChangeSpec.witness6 (enc := enc) (C := Try.checked) false ⟨#[], #[.int .u64 0, .int .u64 0, .int .i64 0, .int .i64 0], []⟩ 8 (by kernel_rfl) (by kernel_rfl) (by kernel_rfl) (by kernel_rfl)) ?_
  · intro ds hl
    match ds, hl with
    | [_, _, _, _], _ => rfl
  · intro W base args ds p hval hA _ _
    rw [Try.params6] at hA hval
    obtain ⟨v0, v1, v2, v3, d0, d1, d2, d3, p0, p1, p2, p3, rfl, rfl, rfl, h0, h1, h2, h3⟩ := trodAll_four hA
    obtain ⟨u, rfl, rfl, rfl, wu⟩ := open_int Try.underlying22 (hval 0 22 v0 rfl rfl) h0
    obtain ⟨v, rfl, rfl, rfl, wv⟩ := open_int Try.underlying22 (hval 1 22 v1 rfl rfl) h1
    obtain ⟨a, rfl, rfl, rfl, wa⟩ := open_int Try.underlying2 (hval 2 2 v2 rfl rfl) h2
    obtain ⟨b, rfl, rfl, rfl, wb⟩ := open_int Try.underlying2 (hval 3 2 v3 rfl rfl) h3
    exact (wordOnce_any u v a b W (range_u64 wu).1 (range_u64 wu).2 (range_u64 wv).1 (range_u64 wv).2).mono fun e W' ⟨he, hM⟩ => ⟨he, hM.below (Nat.le_refl _) (fun _ h => h.elim)⟩

theorem wordOnce_holds : Rows.WordOnceSaid :=
  OpenClaim.holds_of_wide 6 Try.f6 rfl rfl rfl rfl rfl rfl rfl ⟨rfl, rfl, rfl, rfl, rfl⟩ rfl rfl rfl rfl rfl (by kernel_rfl) Try.func6 (by kernel_rfl)
    (of_decide_eq_true (by kernel_rfl)) (by unfold Func.isWrapper; first | (rw [if_pos (by decide +kernel)]; kernel_rfl) | (rw [if_neg (by decide +kernel)]; exact ⟨rfl, rfl⟩))
    (fun os started H enc _ => wordOnce_lifted os started H enc)

end Go.Proofs.Ytlgkofgieceooaa
