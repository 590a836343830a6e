/- Numbers: a whole number in its decimal digits: the document's digits. -/
import Derived.Test.YtlpifchimnnfdaaDoorNmText2
namespace Go.Proofs.YtlpifchimnnfdaaDoor
open Go.RowKit
attribute [local irreducible] Ext
attribute [local go_sem] run_store_float

/-- So many decimal digits of a number. -/
def decL (u m : Nat) : List UInt8 := (List.range m).map fun i => UInt8.ofNat (48 + u / 10 ^ (m - 1 - i) % 10)
def decS (u m : Nat) : ByteArray := ⟨(decL u m).toArray⟩

theorem decL_length (u m : Nat) : (decL u m).length = m := by simp [decL]
theorem decS_size (u m : Nat) : (decS u m).size = m := by
  show (decL u m).toArray.size = m
  simp [decL]

/-- How many digits a number has. -/
def nd (u : Nat) : Nat := if _h : u < 10 then 1 else nd (u / 10) + 1
termination_by u
decreasing_by omega

theorem nd_small {u : Nat} (h : u < 10) : nd u = 1 := by unfold nd; rw [dif_pos h]
theorem nd_big {u : Nat} (h : 10 ≤ u) : nd u = nd (u / 10) + 1 := by conv => lhs; unfold nd
                                                                     rw [dif_neg (by omega)]
theorem nd_pos (u : Nat) : 1 ≤ nd u := by
  by_cases h : u < 10
  · rw [nd_small h]; exact Nat.le_refl _
  · rw [nd_big (by omega)]; omega

theorem nd_le (m : Nat) : ∀ u, u < 10 ^ (m + 1) → nd u ≤ m + 1 := by
  induction m with
  | zero => intro u h; rw [nd_small (by simpa using h)]; exact Nat.le_refl _
  | succ m ih =>
    intro u h
    by_cases h10 : u < 10
    · rw [nd_small h10]; omega
    · rw [nd_big (by omega)]
      have := ih (u / 10) (by rw [Nat.pow_succ] at h; exact Nat.div_lt_of_lt_mul (by omega))
      omega

theorem nd_ge (m : Nat) : ∀ u, 10 ^ m ≤ u → m + 1 ≤ nd u := by
  induction m with
  | zero => intro u _; exact nd_pos u
  | succ m ih =>
    intro u h
    have hp : 0 < 10 ^ m := Nat.pow_pos (by decide)
    rw [Nat.pow_succ] at h
    rw [nd_big (by omega)]
    have := ih (u / 10) (by omega)
    omega

theorem decS_one {u : Nat} (h : u < 10) : decS u 1 = ⟨#[UInt8.ofNat (48 + u)]⟩ := by
  unfold decS decL
  simp [Nat.mod_eq_of_lt h, List.range_succ]

theorem decS_snoc (u m : Nat) : decS (u / 10) m ++ ⟨#[UInt8.ofNat (48 + u % 10)]⟩ = decS u (m + 1) := by
  have e : decL u (m + 1) = decL (u / 10) m ++ [UInt8.ofNat (48 + u % 10)] := by
    unfold decL
    rw [List.range_succ, List.map_append]
    congr 1
    · refine List.map_congr_left fun i hi => ?_
      have hi' : i < m := List.mem_range.1 hi
      rw [Nat.div_div_eq_div_mul, Nat.mul_comm, ← Nat.pow_succ, show (m - 1 - i).succ = m + 1 - 1 - i by omega]
    · simp
  apply ByteArray.ext
  rw [ByteArray.data_append]
  show (decL (u / 10) m).toArray ++ #[UInt8.ofNat (48 + u % 10)] = (decL u (m + 1)).toArray
  rw [e]
  simp

theorem one_byte {wr : World} {b d : Nat} (h : wr.heap[b]? = some (.cells #[.int .u8 (d : Int)] 5 (0, 0))) (hd : d < 256) : (convert 88 9 (.slice (some ⟨b, 0, none⟩) 1 1)).run Tryd.prog wr = .ok (.string ⟨#[UInt8.ofNat d]⟩) wr := by
  have h2 := run_convert_bytes_back (P := Tryd.prog) wr 88 9 5 ⟨b, 0, none⟩ 1 [UInt8.ofNat d] (by kernel_rfl) (by kernel_rfl) (by kernel_rfl) (fun t ht => by
    have ht' : t = 0 := by simpa using ht
    subst ht'
    have e : (⟨b, 0, none⟩ : Addr).add 0 = ⟨b, 0, none⟩ := by unfold Addr.add; split <;> simp_all
    rw [e, cell_of_heap h 0]
    simp [Nat.mod_eq_of_lt hd])
  exact h2

end Go.Proofs.YtlpifchimnnfdaaDoor
