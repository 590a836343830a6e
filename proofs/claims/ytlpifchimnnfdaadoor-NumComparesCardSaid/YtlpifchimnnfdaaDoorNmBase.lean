/- Numbers: what makes them. -/
import Derived.Test.YtlpifchimnnfdaaDoorTmRight
import Derived.Test.YtlpifchimnnfdaaDoorTmSet
import Derived.Test.YtlpifchimnnfdaaDoorFltOne
import Derived.IntWalk
import Derived.BigQuiet
import Derived.Deep.DeepCutAuto
import Derived.Deep.CutRange
import Derived.Deep.CutBlock
namespace Go.Proofs.YtlpifchimnnfdaaDoor
open Go.RowKit
attribute [local irreducible] Ext
attribute [local go_sem] run_store_float

/-- A number and an error, as a value. -/
def nV (k n : Int) (f : Nat) (e : Int) : Value := .tuple #[.agg #[.int .i64 k, .int .i64 n, .float .f64 f, .string ⟨#[]⟩, .slice none 0 0], .int .i64 e]

/-- A number as a value. -/
def tV (k n : Int) (f : Nat) : Value := .agg #[.int .i64 k, .int .i64 n, .float .f64 f, .string ⟨#[]⟩, .slice none 0 0]

/-- What the making of a whole number tells; of a float. -/
def mkI (n : Int) : Value := if -576460752303423488 ≤ n ∧ n ≤ 576460752303423487 then nV 1 n 0 0 else nV 0 0 0 12
def mkF (f : Nat) : Value := if finF f then nV 2 0 f 0 else nV 0 0 0 11

theorem mkI_form (n : Int) : ∃ k m e, mkI n = nV k m 0 e := by
  unfold mkI
  split
  · exact ⟨_, _, _, rfl⟩
  · exact ⟨_, _, _, rfl⟩

theorem mkF_form (f : Nat) : ∃ k g e, mkF f = nV k 0 g e := by
  unfold mkF
  split
  · exact ⟨_, _, _, rfl⟩
  · exact ⟨_, _, _, rfl⟩

/-- A zero term's cells, just made. -/
theorem zbox (w : World) : ∃ w1, w.alloc (.cells #[.int .i64 0, .int .i64 0, .float .f64 0, .string ⟨#[]⟩, .slice none 0 0] 27) = w1 ∧ Ext w w1 ∧ RBox w1 w.heap.size 0 0 0 ⟨#[]⟩ none 0 0 ∧ w1.heap.size = w.heap.size + 1 :=
  ⟨_, rfl, (Ext.refl w).alloc _, RBox.new w 0 0 0 ⟨#[]⟩ none 0 0, by simp⟩

/-- What a walk wants of a result's cells: they may be written, they were, and what they hold then. -/
def ZFacts (w1 : World) (b : Nat) (k n : Int) (f : Nat) : Prop :=
  (w1.frozen? ⟨b, 0, none⟩ = false ∧ w1.frozen? ⟨b, 1, none⟩ = false ∧ w1.frozen? ⟨b, 2, none⟩ = false ∧ w1.frozen? ⟨b, 3, none⟩ = false ∧ w1.frozen? ⟨b, 4, none⟩ = false) ∧
  (w1.cell? ⟨b, 0, none⟩ = some (.int .i64 0) ∧ w1.cell? ⟨b, 1, none⟩ = some (.int .i64 0) ∧ w1.cell? ⟨b, 2, none⟩ = some (.float .f64 0) ∧ w1.cell? ⟨b, 3, none⟩ = some (.string ⟨#[]⟩) ∧ w1.cell? ⟨b, 4, none⟩ = some (.slice none 0 0)) ∧
  ((set5 w1 b k n f ⟨#[]⟩ none 0 0).cell? ⟨b, 0, none⟩ = some (.int .i64 k) ∧ (set5 w1 b k n f ⟨#[]⟩ none 0 0).cell? ⟨b, 1, none⟩ = some (.int .i64 n) ∧ (set5 w1 b k n f ⟨#[]⟩ none 0 0).cell? ⟨b, 2, none⟩ = some (.float .f64 f) ∧ (set5 w1 b k n f ⟨#[]⟩ none 0 0).cell? ⟨b, 3, none⟩ = some (.string ⟨#[]⟩) ∧ (set5 w1 b k n f ⟨#[]⟩ none 0 0).cell? ⟨b, 4, none⟩ = some (.slice none 0 0))

theorem zfacts {w1 : World} {b : Nat} (h : RBox w1 b 0 0 0 ⟨#[]⟩ none 0 0) (k n : Int) (f : Nat) : ZFacts w1 b k n f :=
  ⟨⟨h.free 0, h.free 1, h.free 2, h.free 3, h.free 4⟩, h.cells, (h.fill k n f ⟨#[]⟩ none 0 0).cells⟩

theorem i_any (n : Int) (w : World) : Calls Tryd.prog 27 #[.int .i64 n] w fun e w' => e = .returned (tV 1 n 0) ∧ Ext w w' := by
  obtain ⟨w1, hw, hE, hz, _⟩ := zbox w
  have HW := Lib.hid hw
  obtain ⟨⟨g0, g1, g2, g3, g4⟩, ⟨a0, a1, a2, a3, a4⟩, r0, r1, r2, r3, r4⟩ := zfacts hz 1 n 0
  unfold set5 at r0 r1 r2 r3 r4
  have HX := Lib.hid (ext_set5 hE (Nat.le_refl _) 1 n 0 ⟨#[]⟩ none 0 0)
  clear hw hE hz
  go_enter Tryd.func27, Tryd.ntmps27
  go_upto_region 1 with (fail)
  rw [HW.out]
  go_wp2_with fail
  exact bodyPost_ret (v := tV 1 n 0) (by simp [results, tV, Tryd.f27, go_sem, r0, r1, r2, r3, r4]) rfl ⟨rfl, HX.out⟩

theorem f_any (f : Nat) (w : World) : Calls Tryd.prog 28 #[.float .f64 f] w fun e w' => e = .returned (tV 2 0 f) ∧ Ext w w' := by
  obtain ⟨w1, hw, hE, hz, _⟩ := zbox w
  have HW := Lib.hid hw
  obtain ⟨⟨g0, g1, g2, g3, g4⟩, ⟨a0, a1, a2, a3, a4⟩, r0, r1, r2, r3, r4⟩ := zfacts hz 2 0 f
  unfold set5 at r0 r1 r2 r3 r4
  have HX := Lib.hid (ext_set5 hE (Nat.le_refl _) 2 0 f ⟨#[]⟩ none 0 0)
  clear hw hE hz
  go_enter Tryd.func28, Tryd.ntmps28
  go_upto_region 1 with (fail)
  rw [HW.out]
  go_wp2_with fail
  exact bodyPost_ret (v := tV 2 0 f) (by simp [results, tV, Tryd.f28, go_sem, r0, r1, r2, r3, r4]) rfl ⟨rfl, HX.out⟩

theorem pint_any (n : Int) (w : World) : Calls Tryd.prog 18 #[.int .i64 n] w fun e w' => e = .returned (mkI n) ∧ Ext w w' := by
  obtain ⟨w1, hw, hE, hz, _⟩ := zbox w
  have HW := Lib.hid hw
  obtain ⟨⟨g0, g1, g2, g3, g4⟩, ⟨a0, a1, a2, a3, a4⟩, r0, r1, r2, r3, r4⟩ := zfacts hz 1 n 0
  obtain ⟨_, _, s0, s1, s2, s3, s4⟩ := zfacts hz 0 0 0
  unfold set5 at r0 r1 r2 r3 r4 s0 s1 s2 s3 s4
  have HX := Lib.hid (ext_set5 hE (Nat.le_refl _) 1 n 0 ⟨#[]⟩ none 0 0)
  have HY := Lib.hid (ext_set5 hE (Nat.le_refl _) 0 0 0 ⟨#[]⟩ none 0 0)
  have hres : ∀ b : Bool, (decide (n < -576460752303423488) || decide (576460752303423487 < n)) = b → mkI n = if b then nV 0 0 0 12 else nV 1 n 0 0 := by
    intro b hb
    unfold mkI
    subst hb
    by_cases h1 : n < -576460752303423488
    · rw [if_neg (by omega), decide_eq_true h1]; rfl
    · by_cases h2 : 576460752303423487 < n
      · rw [if_neg (by omega), decide_eq_true h2, Bool.or_true]; rfl
      · rw [if_pos (by omega), decide_eq_false h1, decide_eq_false h2]; rfl
  clear hw hE hz
  cases b1 : decide (n < -576460752303423488) <;> cases b2 : decide (576460752303423487 < n)
  all_goals rw [b1, b2] at hres
  all_goals have HR := Lib.hid (hres _ rfl)
  all_goals clear hres
  all_goals
    go_enter Tryd.func18, Tryd.ntmps18
    go_upto_region 1 with (fail)
    rw [HW.out]
    go_wp2_with fail
  · exact bodyPost_ret (v := nV 1 n 0 0) (by simp [results, nV, Tryd.f18, go_sem, r0, r1, r2, r3, r4]) rfl ⟨by rw [HR.out]; rfl, HX.out⟩
  all_goals exact bodyPost_ret (v := nV 0 0 0 12) (by simp [results, nV, Tryd.f18, go_sem, s0, s1, s2, s3, s4]) rfl ⟨by rw [HR.out]; rfl, HY.out⟩

end Go.Proofs.YtlpifchimnnfdaaDoor
