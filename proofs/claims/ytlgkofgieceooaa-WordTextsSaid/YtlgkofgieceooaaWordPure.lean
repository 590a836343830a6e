/- The plain answers of the word layer's functions of numbers, and the laws of bits that they want. -/
import Derived.Test.YtlgkofgieceooaaProg
import Derived.WalkKit
import Derived.WalkSpells
import Derived.WalkLawsBesides
namespace Go.Proofs.Ytlgkofgieceooaa
open Go.RowKit

theorem wrap_u64 (n : Int) : IntKind.u64.wrap n = n % 18446744073709551616 := by simp [IntKind.wrap, IntKind.bits, IntKind.signed]

theorem wraps_u64 (n : Int) (h₀ : 0 ≤ n) (h₁ : n < 2 ^ 64) : IntKind.u64.wrap n = n := by rw [wrap_u64]; omega

theorem and15 {x : Int} (h₀ : 0 ≤ x) (h₁ : x < 18446744073709551616) : bits .and .u64 x 15 = x % 16 := by
  have := bits_mask .u64 64 (by decide) wraps_u64 4 (by decide) x h₀ (by omega)
  simpa using this

theorem or4 {x y : Int} (hx₀ : 0 ≤ x) (hx : x % 16 = 0) (hx₁ : x < 18446744073709551616) (h₀ : 0 ≤ y) (h₁ : y < 16) : bits .or .u64 x y = x + y :=
  bits_join .u64 64 (by decide) wraps_u64 4 x y hx₀ (by omega) (by omega) h₀ (by omega) (by omega)

def wordOf (t b : Int) : Int := (b % 1152921504606846976) * 16 + t

theorem join_any {t b X : Int} (h0 : 0 ≤ t) (h1 : t < 16) (hX : X = b % 1152921504606846976 * 16) : bits .or .u64 X t = wordOf t b := by
  rw [or4 (by omega) (by omega) (by omega) h0 h1, hX]
  rfl

theorem pair_join {t t' b X : Int} (h0 : 0 ≤ t) (h1 : t < 16) (ht : t' = t) (hX : X = b % 1152921504606846976 * 16) : (wordOf t b, (0 : Int)) = (bits .or .u64 X t', 0) := by
  rw [ht, join_any h0 h1 hX]

/-- What Of answers. -/
def ofR (t b : Int) : Int × Int :=
  if t < 1 ∨ 8 < t then (0, 1)
  else if (t = 1 ∧ (b < -576460752303423488 ∨ 576460752303423487 < b)) ∨ (t = 4 ∧ b ≠ 0) ∨ (t ≠ 1 ∧ (b < 0 ∨ 1099511627776 < b)) then (0, 12)
  else (wordOf t b, 0)

/-- What Header answers. -/
def headerR (k s : Int) : Int × Int :=
  if ¬ (k = 2 ∨ k = 4 ∨ k = 5 ∨ k = 7) then (0, 1)
  else if s < 0 ∨ 65536 < s then (0, 12)
  else ofR 7 (16 * s + k)

/-- What Body answers. -/
def bodyR (u : Int) : Int := if u % 16 = 1 ∧ 576460752303423488 ≤ u / 16 then u / 16 - 1152921504606846976 else u / 16

/-- What Right answers. -/
def rightR (u : Int) : Bool := decide (ofR (u % 16) (bodyR u) = (u, 0))

/-- What the method Header answers. -/
def lookR (u : Int) : Int × Int × Bool :=
  if u % 16 = 7 ∧ headerR (u / 16 % 16) (u / 16 / 16) = (u, 0) then (u / 16 % 16, u / 16 / 16, true) else (0, 0, false)

theorem ofR_err (t b : Int) : (ofR t b).2 = 0 ∨ (ofR t b).2 = 1 ∨ (ofR t b).2 = 12 := by unfold ofR; split <;> (try split) <;> simp

theorem wordOf_range {t b : Int} (h0 : 0 ≤ t) (h1 : t < 16) : 0 ≤ wordOf t b ∧ wordOf t b < 18446744073709551616 := by unfold wordOf; omega

theorem ofR_range (t b : Int) : 0 ≤ (ofR t b).1 ∧ (ofR t b).1 < 18446744073709551616 := by
  unfold ofR
  split
  · simp
  · split
    · simp
    · exact wordOf_range (by omega) (by omega)

theorem headerR_range (k s : Int) : 0 ≤ (headerR k s).1 ∧ (headerR k s).1 < 18446744073709551616 := by
  unfold headerR
  split
  · simp
  · split
    · simp
    · exact ofR_range _ _

theorem headerR_err (k s : Int) : (headerR k s).2 = 0 ∨ (headerR k s).2 = 1 ∨ (headerR k s).2 = 12 := by
  unfold headerR
  split
  · simp
  · split
    · simp
    · exact ofR_err _ _

theorem bodyR_range {u : Int} (h0 : 0 ≤ u) (h1 : u < 18446744073709551616) : -576460752303423488 ≤ bodyR u ∧ bodyR u < 1152921504606846976 := by
  unfold bodyR
  split <;> omega

theorem ret2_of {v1 v2 c1 c2 : Int} {k1 k2 : IntKind} {p : Int × Int} (h : p = (v1, v2)) (h1 : c1 = v1) (h2 : c2 = v2) :
    Ending.returned (.tuple #[.int k1 c1, .int k2 c2]) = .returned (.tuple #[.int k1 p.1, .int k2 p.2]) := by
  subst h1; subst h2; rw [h]

theorem ret_num {k : IntKind} {a b : Int} (h : a = b) : Ending.returned (.int k a) = .returned (.int k b) := by rw [h]

theorem ret_bool {a b : Bool} (h : a = b) : Ending.returned (.bool a) = .returned (.bool b) := by rw [h]

end Go.Proofs.Ytlgkofgieceooaa
