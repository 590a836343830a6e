/- Numbers: the document's digits: the walk. -/
import Derived.Test.YtlpifchimnnfdaaDoorNmDec
namespace Go.Proofs.YtlpifchimnnfdaaDoor
open Go.RowKit
attribute [local irreducible] Ext
attribute [local go_sem] run_store_float

theorem wrap_u8n (n : Nat) (h : 48 + n < 256) : IntKind.u8.wrap (48 + (n : Int)) = 48 + (n : Int) := by
  rw [IntKind.wrap_u8]
  omega

theorem dig_byte {d : Nat} (hd : d < 10) (wr : World) (b : Nat) (h : wr.heap[b]? = some (.cells #[.int .u8 (48 + (d : Int))] 5 (0, 0))) : (convert 88 9 (.slice (some ⟨b, 0, none⟩) 1 1)).run Tryd.prog wr = .ok (.string ⟨#[UInt8.ofNat (48 + d)]⟩) wr :=
  one_byte (d := 48 + d) (by rw [h]; simp) (by omega)

theorem made_byte (w : World) (d : Int) : (w.alloc (.cells #[.int .u8 d] 5)).heap[w.heap.size]? = some (.cells #[.int .u8 d] 5 (0, 0)) := heap_alloc_new w _

set_option maxRecDepth 100000 in
set_option maxHeartbeats 4000000 in
theorem digits_any (u : Nat) : u < 18446744073709551616 → ∀ w, Calls Tryd.prog 89 #[.int .u64 (u : Int)] w fun e w' => e = .returned (.string (decS u (nd u))) ∧ Ext w w' := by
  induction u using Nat.strongRecOn with
  | _ u ih =>
    intro hu w
    by_cases h : u < 10
    · have c1 : decide ((u : Int) < 10) = true := decide_eq_true (by omega)
      have c2 : decide (u < 10) = true := decide_eq_true h
      have e1 : IntKind.u64.wrap (48 + (u : Int)) = 48 + (u : Int) := by rw [wrap_u64]; omega
      have e2 := wrap_u8n u (by omega)
      have hcv := dig_byte h _ _ (made_byte w (48 + (u : Int)))
      have HS := Lib.hid (show decS u (nd u) = ⟨#[UInt8.ofNat (48 + u)]⟩ by rw [nd_small h, decS_one h])
      generalize (⟨#[UInt8.ofNat (48 + u)]⟩ : ByteArray) = S at hcv HS
      have HE := Lib.hid ((Ext.refl w).alloc (.cells #[.int .u8 (48 + (u : Int))] 5))
      clear ih hu h
      go_enter Tryd.func89, Tryd.ntmps89
      go_wp2_with fail
      exact bodyPost_ret (v := .string S) (by simp [results, Tryd.f89, go_sem]) rfl ⟨by rw [HS.out], HE.out⟩
    · have c1 : decide ((u : Int) < 10) = false := decide_eq_false (by omega)
      have c2 : decide (u < 10) = false := decide_eq_false h
      obtain ⟨q, hq⟩ : ∃ q, u / 10 = q := ⟨_, rfl⟩
      obtain ⟨d, hd⟩ : ∃ d, u % 10 = d := ⟨_, rfl⟩
      have q1 : (u : Int) / 10 = (q : Int) := by omega
      have d1 : (u : Int) % 10 = (d : Int) := by omega
      have hdl : d < 10 := by omega
      have t1 : (u : Int).tmod 10 = (d : Int) := by rw [Int.tmod_eq_emod_of_nonneg (by omega)]; exact d1
      have e0 : IntKind.u64.wrap (q : Int) = (q : Int) := by rw [wrap_u64]; omega
      have e1 : IntKind.u64.wrap (48 + (d : Int)) = 48 + (d : Int) := by rw [wrap_u64]; omega
      have e2 := wrap_u8n d (by omega)
      have HI := Lib.hid (ih q (by omega) (by omega))
      have hs := decS_snoc u (nd q)
      rw [hq, hd, ← hq, ← nd_big (by omega), hq] at hs
      have hsz := decS_size q (nd q)
      have hnl := nd_le 19 q (by rw [show (10 : Nat) ^ (19 + 1) = 100000000000000000000 from rfl]; omega)
      have hadd := fun W => run_string_add_sum (P := Tryd.prog) W (decS q (nd q)) ⟨#[UInt8.ofNat (48 + d)]⟩ (by rw [hsz]; show nd q + 1 ≤ _; omega)
      rw [hs] at hadd
      have HB := Lib.hid (dig_byte hdl)
      generalize (⟨#[UInt8.ofNat (48 + d)]⟩ : ByteArray) = D at hadd HB
      generalize decS q (nd q) = Sq at hadd HI
      generalize decS u (nd u) = Su at hadd
      have hE0 := (Ext.refl w).drew
      have hE1 := ((Ext.refl w).alloc (.cells #[.int .u8 (48 + (d : Int))] 5)).drew
      have hM1 := made_byte w (48 + (d : Int))
      have hb1 := HB.out (w.alloc (.cells #[.int .u8 (48 + (d : Int))] 5)).drew _ hM1
      have HM1 := Lib.hid hM1
      clear ih hu h hq hd hs hsz hnl hM1
      go_enter Tryd.func89, Tryd.ntmps89
      go_upto_region 3 with (fail)
      go_region_with (first
        | (go_at_call 89; (with_reducible refine (HI.out w.drew).mono ?_); rintro e w8 ⟨rfl, hE8⟩; have hb8 := HB.out _ _ (made_byte w8 (48 + (d : Int))); have hX8 := (hE0.trans hE8).alloc (.cells #[.int .u8 (48 + (d : Int))] 5))
        | (go_at_call 89; (with_reducible refine (HI.out _).mono ?_); rintro e w8 ⟨rfl, hE8⟩; have hb8 := HB.out w8 w.heap.size (hE8.keep (a := (w.alloc (.cells #[.int .u8 (48 + (d : Int))] 5)).drew) HM1.out); have hX8 := hE1.trans hE8)
        | fail)
      all_goals go_wp2_with fail
      all_goals exact bodyPost_ret (v := .string Su) (by simp [results, Tryd.f89, go_sem]) rfl ⟨rfl, hX8⟩

end Go.Proofs.YtlpifchimnnfdaaDoor
