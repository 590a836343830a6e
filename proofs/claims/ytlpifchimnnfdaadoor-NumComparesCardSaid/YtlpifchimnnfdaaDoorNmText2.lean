/- Numbers: a float's text. -/
import Derived.Test.YtlpifchimnnfdaaDoorNmFmt
namespace Go.Proofs.YtlpifchimnnfdaaDoor
open Go.RowKit
attribute [local irreducible] Ext
attribute [local go_sem] run_store_float

theorem hexS_size (u m : Nat) : (hexS u m).size = m := by
  show (hexL u m).toArray.size = m
  simp [hexL]

theorem hexS_succ {u m : Nat} (h : u < 16 ^ m) : (⟨#[48]⟩ : ByteArray) ++ hexS u m = hexS u (m + 1) := by
  have e : hexL u (m + 1) = 48 :: hexL u m := by
    unfold hexL
    rw [List.range_succ_eq_map, List.map_cons]
    congr 1
    · rw [show m + 1 - 1 - 0 = m by omega, Nat.div_eq_of_lt h]
      rfl
    · rw [List.map_map]
      refine List.map_congr_left fun i _ => ?_
      show UInt8.ofNat (hexd (u / 16 ^ (m + 1 - 1 - (i + 1)) % 16)) = _
      rw [show m + 1 - 1 - (i + 1) = m - 1 - i by omega]
  apply ByteArray.ext
  rw [ByteArray.data_append]
  show #[48] ++ (hexL u m).toArray = (hexL u (m + 1)).toArray
  rw [e]
  simp

theorem ifmt_16 (u : Nat) (hu : u < 18446744073709551616) (w : World) (ht : Tab4 w) :
    Calls Tryd.prog 88 #[.int .u64 u, .int .i64 16] w fun e w' => (∃ m, m ≤ 16 ∧ u < 16 ^ m ∧ e = .returned (.string (hexS u m))) ∧ Ext w w' := by
  have H := Lib.hid (fmtBits_16 u hu w ht)
  clear hu ht
  go_enter Tryd.func88, Tryd.ntmps88
  go_wp2_with (first
    | (go_at_call 98
       (with_reducible refine H.out.mono ?_)
       rintro e w3 ⟨⟨v, m, _, hm, hum, rfl⟩, hE3⟩
       have HM := Lib.hid (And.intro hm (And.intro hum hE3))
       clear hm hum hE3)
    | fail)
  exact bodyPost_ret (v := .string (hexS u m)) (by simp [results, Tryd.f88, go_sem]) rfl ⟨⟨m, HM.out.1, HM.out.2.1, rfl⟩, HM.out.2.2⟩

theorem fmt_16 (u : Nat) (hu : u < 18446744073709551616) (w : World) (ht : Tab4 w) :
    Calls Tryd.prog 74 #[.int .u64 u, .int .i64 16] w fun e w' => (∃ m, m ≤ 16 ∧ u < 16 ^ m ∧ e = .returned (.string (hexS u m))) ∧ Ext w w' := by
  have H := Lib.hid (ifmt_16 u hu w ht)
  clear hu ht
  go_enter Tryd.func74, Tryd.ntmps74
  go_wp2_with (first
    | (go_at_call 88
       (with_reducible refine H.out.mono ?_)
       rintro e w3 ⟨⟨m, hm, hum, rfl⟩, hE3⟩
       have HM := Lib.hid (And.intro hm (And.intro hum hE3))
       clear hm hum hE3)
    | fail)
  exact bodyPost_ret (v := .string (hexS u m)) (by simp [results, Tryd.f74, go_sem]) rfl ⟨⟨m, HM.out.1, HM.out.2.1, rfl⟩, HM.out.2.2⟩

/-- A float's text. -/
def textF (f : Nat) : ByteArray := ⟨#[35]⟩ ++ hexS f 16

set_option maxRecDepth 100000 in
set_option maxHeartbeats 4000000 in
theorem text_float (k n : Int) (hk : k ≠ 1) (f : Nat) (hf : f < 18446744073709551616) (s : ByteArray) (so : Option Addr) (m cap : Nat) (w : World) (ht : Tab4 w) :
    Calls Tryd.prog 47 #[.agg #[.int .i64 k, .int .i64 n, .float .f64 f, .string s, .slice so m cap]] w fun e w' => e = .returned (.string (textF f)) ∧ Ext w w' := by
  have hE1 := (Ext.refl w).alloc (.cells #[.int .i64 k, .int .i64 n, .float .f64 f, .string s, .slice so m cap] 27)
  have hB1 := RBox.new w k n f s so m cap
  obtain ⟨w1, hw1⟩ : ∃ w1, w.alloc (.cells #[.int .i64 k, .int .i64 n, .float .f64 f, .string s, .slice so m cap] 27) = w1 := ⟨_, rfl⟩
  rw [hw1] at hE1 hB1
  obtain ⟨c0, c1, c2, c3, c4⟩ := hB1.cells
  have HW1 := Lib.hid hw1
  have HE := Lib.hid hE1
  have H := Lib.hid (fun W hW => fmt_16 f hf W hW)
  have HT := Lib.hid (ht.ext hE1)
  have hk1 : decide (k = 1) = false := decide_eq_false hk
  have hk2 : (k == 1) = false := by simpa using hk
  have hb := run_bits f
  clear hE1 hB1 hw1 ht hf hk
  go_enter Tryd.func47, Tryd.ntmps47
  go_upto_region 1 with (fail)
  rw [HW1.out]
  go_wp2_with (first
    | (go_at_call 74
       (with_reducible refine (H.out _ (by first | exact HT.out | exact HT.out.ext (Ext.drewN _ (Ext.refl _)))).mono ?_)
       rintro e w3 ⟨⟨q, hq, huq, rfl⟩, hE3⟩
       have HM := Lib.hid (And.intro hq (And.intro huq (HE.out.trans hE3)))
       clear hq huq hE3)
    | fail)
  go_loopg [3] (16 - q) (fun g x wr => ∃ t : Nat, t + g = 16 ∧ x = .string (hexS f t) ∧ Hid (f < 16 ^ t) ∧ wr = w3)
  case atStart => exact ⟨q, by have := HM.out.1; omega, rfl, Lib.hid HM.out.2.1, rfl⟩
  case round =>
    obtain ⟨t, ht, rfl, HU, rfl⟩ := hrel
    have hsz := hexS_size f t
    by_cases h16 : t < 16
    · have c1 : decide ((t : Int) < 16) = true := decide_eq_true (by omega)
      have hadd := hexS_succ HU.out
      have HU2 : Hid (f < 16 ^ (t + 1)) := Lib.hid (Nat.lt_of_lt_of_le HU.out (Nat.pow_le_pow_right (by decide) (by omega)))
      have HG := Lib.hid (show t + 1 + (16 - (t + 1)) = 16 by omega)
      have HG2 := Lib.hid (And.intro h16 ht)
      obtain ⟨st, hst⟩ : ∃ st, hexS f t = st := ⟨_, rfl⟩
      obtain ⟨st2, hst2⟩ : ∃ st2, hexS f (t + 1) = st2 := ⟨_, rfl⟩
      have HST := Lib.hid hst2
      rw [hst] at hsz ⊢
      rw [hst, hst2] at hadd
      have hrun := fun W => run_string_add_sum (P := Tryd.prog) W ⟨#[48]⟩ st (by show 1 + st.size ≤ _; omega)
      rw [hadd] at hrun
      clear hadd
      clear hst hst2 h16 ht
      go_wp2_with fail
      go_roundg (16 - (t + 1))
      case measure => have := HG2.out; omega
      case rel => exact ⟨t + 1, HG.out, by rw [HST.out], HU2, rfl⟩
    · have h1 : t = 16 := by omega
      subst h1
      have c1 : decide (((16 : Nat) : Int) < 16) = false := by decide
      have HS := Lib.hid (show textF f = ⟨#[35]⟩ ++ hexS f 16 from rfl)
      obtain ⟨st, hst⟩ : ∃ st, hexS f 16 = st := ⟨_, rfl⟩
      rw [hst] at hsz HS ⊢
      clear hst
      have hrun := fun W => run_string_add_sum (P := Tryd.prog) W ⟨#[35]⟩ st (by show 1 + st.size ≤ _; omega)
      go_wp2_with fail
      exact bodyPost_ret (v := .string (⟨#[35]⟩ ++ st)) (by simp [results, Tryd.f47, go_sem]) rfl ⟨by rw [HS.out], HM.out.2.2⟩

end Go.Proofs.YtlpifchimnnfdaaDoor
