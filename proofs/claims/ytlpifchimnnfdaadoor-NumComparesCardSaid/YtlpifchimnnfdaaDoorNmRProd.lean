/- Numbers: the document's product, reckon, real. -/
import Derived.Test.YtlpifchimnnfdaaDoorNmRNear2
namespace Go.Proofs.YtlpifchimnnfdaaDoor
open Go.RowKit
attribute [local irreducible] Ext
attribute [local go_sem] run_store_float

/-- Is it a number of 60 bits? -/
def inI (n : Int) : Bool := decide (-576460752303423488 ≤ n) && decide (n ≤ 576460752303423487)

/-- What product tells. -/
def ProdPost (p : Int) (w : World) (e : Ending) (w' : World) : Prop := (∃ q, e = .returned (.tuple #[.int .i64 q, .bool (inI p)]) ∧ (inI p = true → q = p)) ∧ w = w'

theorem mul_fit {x y k : Nat} (hy : 0 < y) (hk : 576460752303423488 / y = k) : x ≤ k ↔ x * y ≤ 576460752303423488 := by
  rw [← hk, Nat.le_div_iff_mul_le hy]

theorem ret_two {k : IntKind} {x x' : Int} {b b' : Bool} (h1 : x = x') (h2 : b = b') : Ending.returned (.tuple #[.int k x, .bool b]) = .returned (.tuple #[.int k x', .bool b']) := by rw [h1, h2]

set_option maxHeartbeats 2000000 in
theorem product_any (a b : Int) (ha : -576460752303423488 ≤ a ∧ a ≤ 576460752303423487) (hb : -576460752303423488 ≤ b ∧ b ≤ 576460752303423487) (w : World) :
    Calls Tryd.prog 84 #[.int .i64 a, .int .i64 b] w (ProdPost (a * b) w) := by
  by_cases ha0 : a = 0
  · subst ha0
    rw [Int.zero_mul]
    clear ha hb
    go_enter Tryd.func84, Tryd.ntmps84
    go_wp2_with fail
    go_ret2
    exact ⟨⟨0, rfl, fun _ => rfl⟩, rfl⟩
  · have c1 : (a == 0) = false := beq_eq_false_iff_ne.2 ha0
    by_cases hb0 : b = 0
    · subst hb0
      rw [Int.mul_zero]
      clear ha hb
      go_enter Tryd.func84, Tryd.ntmps84
      go_wp2_with fail
      go_ret2
      exact ⟨⟨0, rfl, fun _ => rfl⟩, rfl⟩
    · have c2 : (b == 0) = false := beq_eq_false_iff_ne.2 hb0
      obtain ⟨x, hx⟩ : ∃ x : Nat, a.natAbs = x := ⟨_, rfl⟩
      obtain ⟨y, hy⟩ : ∃ y : Nat, b.natAbs = y := ⟨_, rfl⟩
      have hy0 : 0 < y := by omega
      obtain ⟨k, hk⟩ : ∃ k : Nat, 576460752303423488 / y = k := ⟨_, rfl⟩
      have hfit := mul_fit (x := x) hy0 hk
      have hk2 : (576460752303423488 : Int) / (y : Int) = (k : Int) := by rw [← hk]; rfl
      have hk3 : (576460752303423488 : Int).tdiv (y : Int) = (k : Int) := by rw [Int.tdiv_eq_ediv_of_nonneg (by decide)]; exact hk2
      have hkl : k ≤ 576460752303423488 := by rw [← hk]; exact Nat.div_le_self _ _
      have e1 : IntKind.i64.wrap (k : Int) = (k : Int) := IntWalk.i64_in _ (by omega)
      have hz : ¬ (y : Int) = 0 := by omega
      have hz2 : ((y : Int) == 0) = false := beq_eq_false_iff_ne.2 hz
      have hmag : (a * b).natAbs = x * y := by rw [Int.natAbs_mul, hx, hy]
      obtain ⟨p, hp⟩ : ∃ p, a * b = p := ⟨_, rfl⟩
      have e0a : a < 0 → IntKind.i64.wrap (-a) = (x : Int) := fun h => by rw [IntWalk.i64_in _ (by omega)]; omega
      have e0b : b < 0 → IntKind.i64.wrap (-b) = (y : Int) := fun h => by rw [IntWalk.i64_in _ (by omega)]; omega
      have p0a : ¬ a < 0 → a = (x : Int) := fun h => by omega
      have p0b : ¬ b < 0 → b = (y : Int) := fun h => by omega
      rw [hp] at hmag ⊢
      by_cases hf : x ≤ k
      · have h1 := hfit.1 hf
        have hpw : IntKind.i64.wrap p = p := IntWalk.i64_in _ (by omega)
        have d1 : decide ((k : Int) < (x : Int)) = false := decide_eq_false (by omega)
        have d1' : decide (k < x) = false := decide_eq_false (by omega)
        have hlo : decide (-576460752303423488 ≤ p) = true := decide_eq_true (by omega)
        clear h1 hfit hmag hkl hk hf hy0 hx hy ha hb ha0 hb0
        by_cases sa : a < 0 <;> by_cases sb : b < 0
        · have m1 := e0a sa
          have da : decide (a < 0) = true := decide_eq_true sa
          have m2 := e0b sb
          have db : decide (b < 0) = true := decide_eq_true sb
          clear e0a e0b p0a p0b sa sb
          cases t2 : decide (p ≤ 576460752303423487)
          · have HI := Lib.hid (show inI p = false by unfold inI; rw [t2, Bool.and_false])
            go_enter Tryd.func84, Tryd.ntmps84
            go_wp2_with fail
            go_ret2
            exact ⟨⟨p, by rw [HI.out] <;> rfl, fun _ => rfl⟩, rfl⟩
          · have HI := Lib.hid (show inI p = true by unfold inI; rw [hlo, t2]; rfl)
            go_enter Tryd.func84, Tryd.ntmps84
            go_wp2_with fail
            go_ret2
            exact ⟨⟨p, by rw [HI.out] <;> rfl, fun _ => rfl⟩, rfl⟩
        · have m1 := e0a sa
          have da : decide (a < 0) = true := decide_eq_true sa
          obtain rfl := p0b (by omega)
          have db : decide ((y : Int) < 0) = false := decide_eq_false (by omega)
          clear e0a e0b p0a p0b sa sb
          cases t2 : decide (p ≤ 576460752303423487)
          · have HI := Lib.hid (show inI p = false by unfold inI; rw [t2, Bool.and_false])
            go_enter Tryd.func84, Tryd.ntmps84
            go_wp2_with fail
            go_ret2
            exact ⟨⟨p, by rw [HI.out] <;> rfl, fun _ => rfl⟩, rfl⟩
          · have HI := Lib.hid (show inI p = true by unfold inI; rw [hlo, t2]; rfl)
            go_enter Tryd.func84, Tryd.ntmps84
            go_wp2_with fail
            go_ret2
            exact ⟨⟨p, by rw [HI.out] <;> rfl, fun _ => rfl⟩, rfl⟩
        · obtain rfl := p0a (by omega)
          have da : decide ((x : Int) < 0) = false := decide_eq_false (by omega)
          have m2 := e0b sb
          have db : decide (b < 0) = true := decide_eq_true sb
          clear e0a e0b p0a p0b sa sb
          cases t2 : decide (p ≤ 576460752303423487)
          · have HI := Lib.hid (show inI p = false by unfold inI; rw [t2, Bool.and_false])
            go_enter Tryd.func84, Tryd.ntmps84
            go_wp2_with fail
            go_ret2
            exact ⟨⟨p, by rw [HI.out] <;> rfl, fun _ => rfl⟩, rfl⟩
          · have HI := Lib.hid (show inI p = true by unfold inI; rw [hlo, t2]; rfl)
            go_enter Tryd.func84, Tryd.ntmps84
            go_wp2_with fail
            go_ret2
            exact ⟨⟨p, by rw [HI.out] <;> rfl, fun _ => rfl⟩, rfl⟩
        · obtain rfl := p0a (by omega)
          have da : decide ((x : Int) < 0) = false := decide_eq_false (by omega)
          obtain rfl := p0b (by omega)
          have db : decide ((y : Int) < 0) = false := decide_eq_false (by omega)
          clear e0a e0b p0a p0b sa sb
          cases t2 : decide (p ≤ 576460752303423487)
          · have HI := Lib.hid (show inI p = false by unfold inI; rw [t2, Bool.and_false])
            go_enter Tryd.func84, Tryd.ntmps84
            go_wp2_with fail
            go_ret2
            exact ⟨⟨p, by rw [HI.out] <;> rfl, fun _ => rfl⟩, rfl⟩
          · have HI := Lib.hid (show inI p = true by unfold inI; rw [hlo, t2]; rfl)
            go_enter Tryd.func84, Tryd.ntmps84
            go_wp2_with fail
            go_ret2
            exact ⟨⟨p, by rw [HI.out] <;> rfl, fun _ => rfl⟩, rfl⟩
      · have h1 : ¬ x * y ≤ 576460752303423488 := fun h => hf (hfit.2 h)
        have d1 : decide ((k : Int) < (x : Int)) = true := decide_eq_true (by omega)
        have d1' : decide (k < x) = true := decide_eq_true (by omega)
        have HI := Lib.hid (show inI p = false by
          unfold inI
          by_cases h : -576460752303423488 ≤ p
          · rw [decide_eq_true h, decide_eq_false (show ¬ p ≤ 576460752303423487 by omega)]; rfl
          · rw [decide_eq_false h]; rfl)
        clear h1 hfit hmag hp hkl hk hf hy0 hx hy ha hb ha0 hb0
        by_cases sa : a < 0 <;> by_cases sb : b < 0
        · have m1 := e0a sa
          have da : decide (a < 0) = true := decide_eq_true sa
          have m2 := e0b sb
          have db : decide (b < 0) = true := decide_eq_true sb
          clear e0a e0b p0a p0b sa sb
          go_enter Tryd.func84, Tryd.ntmps84
          go_wp2_with fail
          go_ret2
          exact ⟨⟨0, by rw [HI.out] <;> rfl, fun h => by rw [HI.out] at h; cases h⟩, rfl⟩
        · have m1 := e0a sa
          have da : decide (a < 0) = true := decide_eq_true sa
          obtain rfl := p0b (by omega)
          have db : decide ((y : Int) < 0) = false := decide_eq_false (by omega)
          clear e0a e0b p0a p0b sa sb
          go_enter Tryd.func84, Tryd.ntmps84
          go_wp2_with fail
          go_ret2
          exact ⟨⟨0, by rw [HI.out] <;> rfl, fun h => by rw [HI.out] at h; cases h⟩, rfl⟩
        · obtain rfl := p0a (by omega)
          have da : decide ((x : Int) < 0) = false := decide_eq_false (by omega)
          have m2 := e0b sb
          have db : decide (b < 0) = true := decide_eq_true sb
          clear e0a e0b p0a p0b sa sb
          go_enter Tryd.func84, Tryd.ntmps84
          go_wp2_with fail
          go_ret2
          exact ⟨⟨0, by rw [HI.out] <;> rfl, fun h => by rw [HI.out] at h; cases h⟩, rfl⟩
        · obtain rfl := p0a (by omega)
          have da : decide ((x : Int) < 0) = false := decide_eq_false (by omega)
          obtain rfl := p0b (by omega)
          have db : decide ((y : Int) < 0) = false := decide_eq_false (by omega)
          clear e0a e0b p0a p0b sa sb
          go_enter Tryd.func84, Tryd.ntmps84
          go_wp2_with fail
          go_ret2
          exact ⟨⟨0, by rw [HI.out] <;> rfl, fun h => by rw [HI.out] at h; cases h⟩, rfl⟩

end Go.Proofs.YtlpifchimnnfdaaDoor
