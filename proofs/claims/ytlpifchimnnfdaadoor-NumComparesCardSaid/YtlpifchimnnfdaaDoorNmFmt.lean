/- Numbers: sixteen digits at the most. -/
import Derived.Test.YtlpifchimnnfdaaDoorNmText
namespace Go.Proofs.YtlpifchimnnfdaaDoor
open Go.RowKit
attribute [local irreducible] Ext
attribute [local go_sem] run_store_float

/-- A hex digit. -/
def hexd (d : Nat) : Nat := if d < 10 then 48 + d else 87 + d

/-- Where the digits stand: so many of the lowest are laid. -/
def FmtAt (w wr : World) (u j : Nat) : Prop :=
  Ext w wr ∧ ∃ cs, wr.heap[w.heap.size]? = some (.cells cs 103 (0, 0)) ∧ cs.size = 65 ∧ ∀ t, t < j → cs[64 - t]? = some (.int .u8 (hexd (u / 16 ^ t % 16)))

theorem zero65 : Tryd.zeroCells103.size = 65 := by kernel_rfl

theorem arr65 (w : World) : (w.alloc (.cells Tryd.zeroCells103 103)).heap[w.heap.size]? = some (.cells Tryd.zeroCells103 103 (0, 0)) ∧ Tryd.zeroCells103.size = 65 :=
  ⟨heap_alloc_new w _, zero65⟩

theorem and15 (q : Nat) (hq : q < 18446744073709551616) : bits .and .u64 (q : Int) 15 = ((q % 16 : Nat) : Int) := by
  show IntKind.u64.wrap ((BitVec.ofInt 64 (q : Int) &&& BitVec.ofInt 64 ((15 : Nat) : Int)).toNat : Int) = _
  rw [BitVec.toNat_and, ofInt_u64 q (by omega), ofInt_u64 15 (by omega), show (15 : Nat) = 2 ^ 4 - 1 from rfl, Nat.and_two_pow_sub_one_eq_mod, wrap_u64]
  omega

theorem index_dig (d : Nat) (hd : d < 16) (w : World) : (Instr.index 9 (.string ⟨#[48, 49, 50, 51, 52, 53, 54, 55, 56, 57, 97, 98, 99, 100, 101, 102, 103, 104, 105, 106, 107, 108, 109, 110, 111, 112, 113, 114, 115, 116, 117, 118, 119, 120, 121, 122]⟩) (.int .u64 (d : Int))).run Tryd.prog w = .ok (.int .u8 (hexd d : Int)) w := by
  rcases (show d = 0 ∨ d = 1 ∨ d = 2 ∨ d = 3 ∨ d = 4 ∨ d = 5 ∨ d = 6 ∨ d = 7 ∨ d = 8 ∨ d = 9 ∨ d = 10 ∨ d = 11 ∨ d = 12 ∨ d = 13 ∨ d = 14 ∨ d = 15 by omega) with rfl | rfl | rfl | rfl | rfl | rfl | rfl | rfl | rfl | rfl | rfl | rfl | rfl | rfl | rfl | rfl
  all_goals kernel_rfl

theorem small16 {u j q : Nat} (hu : u < 18446744073709551616) (hq : u / 16 ^ j = q) (hge : 16 ≤ q) (hj : j ≤ 16) : j < 16 := by
  by_cases h : j < 16
  · exact h
  · have h1 : j = 16 := by omega
    have e : (16 : Nat) ^ 16 = 18446744073709551616 := by decide
    rw [h1, e, Nat.div_eq_of_lt hu] at hq
    omega

/-- So many hex digits of a number. -/
def hexL (u m : Nat) : List UInt8 := (List.range m).map fun i => UInt8.ofNat (hexd (u / 16 ^ (m - 1 - i) % 16))
def hexS (u m : Nat) : ByteArray := ⟨(hexL u m).toArray⟩

theorem hexd_lt (d : Nat) (h : d < 16) : hexd d < 256 := by unfold hexd; split <;> omega
theorem hexL_length (u m : Nat) : (hexL u m).length = m := by simp [hexL]

theorem hex_string {w wr : World} {u j : Nat} (h : FmtAt w wr u j) (hj : 1 ≤ j) (hj16 : j ≤ 16) : (convert 88 9 (.slice (some ⟨w.heap.size, 65 - j, none⟩) j j)).run Tryd.prog wr = .ok (.string (hexS u j)) wr := by
  obtain ⟨hE, cs, hb, hsz, hcs⟩ := h
  have h2 := run_convert_bytes_back (P := Tryd.prog) wr 88 9 5 ⟨w.heap.size, 65 - j, none⟩ j (hexL u j) (by kernel_rfl) (by kernel_rfl) (by kernel_rfl) (fun t ht => by
    have ht' : t < j := by simpa [hexL_length] using ht
    have e : (⟨w.heap.size, 65 - j, none⟩ : Addr).add t = ⟨w.heap.size, 65 - j + t, none⟩ := by unfold Addr.add; split <;> simp_all
    rw [e, cell_of_heap hb (65 - j + t), show 65 - j + t = 64 - (j - 1 - t) by omega, hcs (j - 1 - t) (by omega)]
    have hd := hexd_lt (u / 16 ^ (j - 1 - t) % 16) (Nat.mod_lt _ (by decide))
    simp [hexL, Nat.mod_eq_of_lt hd])
  rw [hexL_length] at h2
  exact h2

theorem top16 {u j q : Nat} (hu : u < 18446744073709551616) (hq : u / 16 ^ j = q) (hge : 16 ≤ q) : j < 15 := by
  by_cases h : j < 15
  · exact h
  · have h1 : u / 16 ^ j ≤ u / 16 ^ 15 := Nat.div_le_div_left (Nat.pow_le_pow_right (by decide) (by omega)) (by decide)
    have e : (16 : Nat) ^ 15 = 1152921504606846976 := by decide
    rw [e] at h1
    omega

theorem hex_fits {u j q : Nat} (hq : u / 16 ^ j = q) (hlt : q < 16) : u < 16 ^ (j + 1) := by
  rw [← hq] at hlt
  rw [Nat.pow_succ, Nat.mul_comm]
  exact (Nat.div_lt_iff_lt_mul (Nat.pow_pos (by decide))).1 hlt

theorem slice65 (w : World) (b p : Nat) (hp : p < 65) : (Instr.sliceAt 103 (.pointer (some ⟨b, 0, none⟩)) (some (.int .i64 (p : Int))) none none).run Tryd.prog w = .ok (.slice (some ⟨b, p, none⟩) (65 - p) (65 - p)) w := by
  have hl : Tryd.prog.arrayLen 103 = 65 := by kernel_rfl
  have h := run_sliceAt_array_l (P := Tryd.prog) w 103 ⟨b, 0, none⟩ (by kernel_rfl) .i64 (p : Int) (by omega) (by rw [hl]; omega)
  rw [h]
  have hs : (sizeOf (Tryd.prog.elem 103)).run Tryd.prog w = .ok 1 w := by kernel_rfl
  rw [hs, hl]
  simp only [Result.andThen]
  have hp2 : ¬ (65 = p) := by omega
  simp [slicedAt, Addr.add, hp2]
  exact Eq.symm

theorem fmt_step {w wr : World} {u j q d p : Nat} {cs : Array Value} (h : Ext w wr ∧ wr.heap[w.heap.size]? = some (.cells cs 103 (0, 0)) ∧ cs.size = 65 ∧ (∀ t, t < j → cs[64 - t]? = some (.int .u8 (hexd (u / 16 ^ t % 16)))) ∧ u / 16 ^ j = q ∧ q % 16 = d ∧ 65 - j = p) (hj : j < 16) :
    FmtAt w (wr.setCell ⟨w.heap.size, p - 1, none⟩ (.int .u8 (hexd d))) u (j + 1) := by
  obtain ⟨hE, hb, hsz, hcs, hq, hd, hp⟩ := h
  refine ⟨ext_set hE (p := ⟨w.heap.size, p - 1, none⟩) (Nat.le_refl _) _, _, heap_set (o := p - 1) hb _, by simpa using hsz, fun t ht => ?_⟩
  rw [Array.getElem?_setIfInBounds]
  by_cases h : p - 1 = 64 - t
  · have ht2 : t = j := by omega
    subst ht2
    rw [if_pos h, if_pos (by omega), hq, hd]
  · rw [if_neg h]
    exact hcs t (by omega)

set_option maxRecDepth 100000 in
set_option maxHeartbeats 4000000 in
theorem fmtBits_16 (u : Nat) (hu : u < 18446744073709551616) (w : World) (ht : Tab4 w) :
    Calls Tryd.prog 98 #[.slice none 0 0, .int .u64 u, .int .i64 16, .bool false, .bool false] w fun e w' => (∃ v m, 1 ≤ m ∧ m ≤ 16 ∧ u < 16 ^ m ∧ e = .returned (.tuple #[v, .string (hexS u m)])) ∧ Ext w w' := by
  have HT := Lib.hid ht
  have HU := Lib.hid hu
  have HP := Lib.hid (fun w => pow2_16 w)
  have HZ := Lib.hid (fun w h => tz_16 w h)
  clear ht hu
  go_enter Tryd.func98, Tryd.ntmps98
  go_wp2_with (first
    | (go_at_call 103; (with_reducible refine (HP.out _).mono ?_); rintro e wa ⟨rfl, rfl⟩)
    | (go_at_call 104; (with_reducible refine (HZ.out _ (HT.out.ext ((Ext.refl w).alloc _))).mono ?_); rintro e wa ⟨rfl, rfl⟩)
    | fail)
  obtain ⟨hA1, hA2⟩ := arr65 w
  have HA := Lib.hid (show FmtAt w (w.alloc (.cells Tryd.zeroCells103 103)) u 0 from ⟨(Ext.refl w).alloc _, _, hA1, hA2, fun t h => absurd h (Nat.not_lt_zero _)⟩)
  clear hA1 hA2
  go_loopg [1, 13] 15 (fun g x i wr => ∃ j : Nat, j + g = 15 ∧ x = .int .u64 ((u / 16 ^ j : Nat) : Int) ∧ i = .int .i64 ((65 - j : Nat) : Int) ∧ Hid (FmtAt w wr u j))
  case atStart => exact ⟨0, by omega, by simp, rfl, HA⟩
  case round =>
    obtain ⟨j, hj, rfl, rfl, HF⟩ := hrel
    obtain ⟨q, hq⟩ : ∃ q, u / 16 ^ j = q := ⟨_, rfl⟩
    rw [hq]
    obtain ⟨d, hd⟩ : ∃ d, q % 16 = d := ⟨_, rfl⟩
    obtain ⟨p, hp⟩ : ∃ p : Nat, 65 - j = p := ⟨_, rfl⟩
    rw [hp]
    by_cases hge : 16 ≤ q
    · have c1 : decide ((16 : Int) ≤ (q : Int)) = true := decide_eq_true (by omega)
      have c1' : decide (16 ≤ q) = true := decide_eq_true hge
      have hq64 : q < 18446744073709551616 := by rw [← hq]; have := HU.out; have := Nat.div_le_self u (16 ^ j); omega
      have hd2 : bits .and .u64 (q : Int) 15 = (d : Int) := by rw [and15 q hq64, hd]
      have hix := index_dig d (by omega)
      have hdb : (0 : Int) ≤ (d : Int) := by omega
      obtain ⟨q2, hq2⟩ : ∃ q2, q / 16 = q2 := ⟨_, rfl⟩
      have hq16 : (q : Int) / 16 = (q2 : Int) := by rw [← hq2]; rfl
      obtain ⟨p2, hp2⟩ : ∃ p2, p - 1 = p2 := ⟨_, rfl⟩
      have e1 : IntKind.i64.wrap ((p : Int) - 1) = (p2 : Int) := by rw [IntWalk.i64_in _ (by omega)]; omega
      obtain ⟨hE, cs, hb, hsz, hcs⟩ := HF.out
      have hcell := cell_of_heap hb p2
      have hfr := free_of_heap hb p2
      have hp0 : (0 : Int) ≤ (p2 : Int) := by omega
      have hp1 : (p2 : Int) < 65 := by omega
      have hce : ∃ v, cs[p2]? = some v := ⟨_, Array.getElem?_eq_getElem (by omega)⟩
      obtain ⟨v, hv⟩ := hce
      rw [hv] at hcell
      have hj16 : j < 15 := top16 HU.out hq hge
      have HJ := Lib.hid (And.intro hj16 (And.intro hq2 hp))
      have HQ := Lib.hid (And.intro hE (And.intro hb (And.intro hsz (And.intro hcs (And.intro hq (And.intro hd hp))))))
      have HP2 := Lib.hid hp2
      clear hE hb hsz hcs hq hd hp hv hq64 hge hj16 hq2 hp2
      go_upto_region 14 with (fail)
      have HN := Lib.hid (fmt_step HQ.out (by have := HJ.out.1; omega))
      clear hd2 hix hp0 hp1 hcell hfr hdb c1 c1'
      rw [HP2.out] at HN
      generalize wr.setCell ⟨w.heap.size, p2, none⟩ (.int .u8 (hexd d)) = wn at HN ⊢
      go_wp2_with fail
      go_roundg (15 - j - 1)
      case measure => have := HJ.out.1; omega
      case rel =>
        refine ⟨j + 1, by have := HJ.out.1; omega, ?_, ?_, HN⟩
        · rw [← HJ.out.2.1, ← HQ.out.2.2.2.2.1, Nat.pow_succ, Nat.div_div_eq_div_mul]
        · rw [← HP2.out, ← HJ.out.2.2]
          congr 2
    · have c1 : decide ((16 : Int) ≤ (q : Int)) = false := decide_eq_false (by omega)
      have c1' : decide (16 ≤ q) = false := decide_eq_false hge
      have hix := index_dig q (by omega)
      have hqd : q % 16 = q := Nat.mod_eq_of_lt (by omega)
      have hdb : (0 : Int) ≤ (q : Int) := by omega
      obtain ⟨p2, hp2⟩ : ∃ p2, p - 1 = p2 := ⟨_, rfl⟩
      have e1 : IntKind.i64.wrap ((p : Int) - 1) = (p2 : Int) := by rw [IntWalk.i64_in _ (by omega)]; omega
      obtain ⟨hE, cs, hb, hsz, hcs⟩ := HF.out
      have hcell := cell_of_heap hb p2
      have hfr := free_of_heap hb p2
      have hp0 : (0 : Int) ≤ (p2 : Int) := by omega
      have hp1 : (p2 : Int) < 65 := by omega
      have hce : ∃ v, cs[p2]? = some v := ⟨_, Array.getElem?_eq_getElem (by omega)⟩
      obtain ⟨v, hv⟩ := hce
      rw [hv] at hcell
      have hjj : j ≤ 15 := by omega
      have HN := Lib.hid (fmt_step ⟨hE, hb, hsz, hcs, hq, hqd, hp⟩ (by omega))
      have HX := Lib.hid (hex_fits hq (by omega))
      have HP2 := Lib.hid (And.intro hp2 (And.intro hp hjj))
      rw [hp2] at HN
      clear hE hb hsz hcs hq hd hp hv hp2 hqd hjj
      go_upto_region 30 with (fail)
      have HE3 := Lib.hid HN.out.1
      have hp65 : p2 = 65 - (j + 1) := by have := HP2.out; omega
      have hc := hex_string HN.out (by omega) (by have := HP2.out.2.2; omega)
      rw [← hp65] at hc
      have hl1 : 65 - p2 = j + 1 := by have := HP2.out; omega
      generalize wr.setCell ⟨w.heap.size, p2, none⟩ (.int .u8 (hexd q)) = wn at hc HE3 HN ⊢
      clear hcell hfr HN
      have hs := slice65 wn w.heap.size p2 (by omega)
      rw [hl1] at hs
      have HR := Lib.hid (show 1 ≤ j + 1 ∧ j + 1 ≤ 16 by have := HP2.out.2.2; omega)
      have HE2 := Lib.hid HE3.out
      clear hp65 hl1
      go_wp2_with fail
      exact bodyPost_ret (v := .tuple #[.slice none 0 0, .string (hexS u (j + 1))]) (by simp [results, Tryd.f98, go_sem]) rfl ⟨⟨_, j + 1, HR.out.1, HR.out.2, HX.out, rfl⟩, HE2.out⟩

end Go.Proofs.YtlpifchimnnfdaaDoor
