/- Numbers: the program's Abs. -/
import Derived.Test.YtlpifchimnnfdaaDoorNmSlot
namespace Go.Proofs.YtlpifchimnnfdaaDoor
open Go.RowKit
attribute [local irreducible] Ext
attribute [local go_sem] run_store_float

set_option maxRecDepth 100000 in
set_option maxHeartbeats 4000000 in
theorem pabs_any (k n : Int) (f : Nat) (s : ByteArray) (so : Option Addr) (m cap : Nat) (hf : f < 18446744073709551616) (w : World) :
    Calls Tryd.prog 49 #[.agg #[.int .i64 k, .int .i64 n, .float .f64 f, .string s, .slice so m cap]] w fun e w' => e = .returned (absV k n f (numV k n f s m)) ∧ Ext w w' := by
  obtain ⟨w2, hw, hO⟩ := one_start w k n f s so m cap
  have HW := Lib.hid hw
  have HO := Lib.hid hO
  have HC1 := Lib.hid (fun w => of_any k n f s so m cap hf w)
  obtain ⟨r, hr⟩ : ∃ r, numV k n f s m = r := ⟨_, rfl⟩
  rw [hr] at HC1 ⊢
  have HR := Lib.hid hr
  have HF := Lib.hid hf
  obtain ⟨c0, c1, c2, c3, c4⟩ := hO.a.cells
  clear hw hO hf hr
  go_enter Tryd.func49, Tryd.ntmps49
  go_upto_region 1 with (fail)
  rw [HW.out]
  go_upto_region 2 with (first
    | ((with_reducible refine (HC1.out _).mono ?_)
       rintro e w4 ⟨k1, n1, f1, rfl, hk1, hE4⟩
       unfold ofV
       have hn := NBox.new w4 k1 n1 f1
       have hEx := (Ext.refl w4).alloc (.cells #[.int .i64 k1, .int .i64 n1, .int .u64 f1] 71)
       obtain ⟨w5, hw5⟩ : ∃ w5, w4.alloc (.cells #[.int .i64 k1, .int .i64 n1, .int .u64 f1] 71) = w5 := ⟨_, rfl⟩
       rw [hw5] at hn hEx
       have HO5 := Lib.hid ((HO.out.next hE4).next hEx)
       have HN5 := Lib.hid hn
       have HK1 := Lib.hid hk1
       clear hn hEx hk1 hE4 c0 c1 c2 c3 c4)
    | fail)
  clear hw5
  have HN5 := HN5.out
  generalize w4.heap.size = B1 at HN5 ⊢
  cases r
  · obtain ⟨hz, hY⟩ := HO5.out.fill 0 0 0
    obtain ⟨⟨g0, g1, g2, g3, g4⟩, ⟨a0, a1, a2, a3, a4⟩, s0, s1, s2, s3, s4⟩ := hz
    unfold set5 at s0 s1 s2 s3 s4
    have HY := Lib.hid hY
    clear hY HN5 HO HO5
    go_wp2_with fail
    exact bodyPost_ret (v := nV 0 0 0 11) (by simp [results, nV, Tryd.f49, go_sem, s0, s1, s2, s3, s4]) rfl ⟨rfl, HY.out⟩
  · obtain ⟨rfl, rfl, rfl⟩ := HK1.out rfl
    obtain ⟨d0, d1, d2⟩ := HN5.cells
    have HN5 := Lib.hid HN5
    obtain ⟨q, hq⟩ : ∃ q, (k1 == 1) = q := ⟨_, rfl⟩
    have HC3 := Lib.hid (fun w => whole_any k1 n1 f w)
    rw [hq] at HC3
    cases q
    · have hx : absV k1 n1 f true = mkF (f % 9223372036854775808) := by unfold absV; rw [if_neg (by decide), if_neg (by rw [hq]; decide)]
      obtain ⟨rk, rn, rf, re, hmk⟩ := nV_form (.inr (mkF_form (f % 9223372036854775808)))
      have HV := Lib.hid (hx.trans hmk)
      have hX := fun w => pfloat_any (f % 9223372036854775808) (by omega) w
      rw [hmk] at hX
      have hA := fun w => abs_any f HF.out w
      have hp := fun w => preal_any k1 n1 f w
      rw [show realF k1 n1 f = f by unfold realF; rw [if_neg (by rw [hq]; decide)]] at hp
      have HP1 := Lib.hid hp
      generalize f % 9223372036854775808 = g at hX hA
      have HX := Lib.hid hX
      have HA := Lib.hid hA
      clear HK1 hmk hx hp hq HR HF hX hA
      go_wp2_with (first
        | (go_at_call 61
           (with_reducible refine (HC3.out _).mono ?_)
           rintro e w8 ⟨rfl, hE8⟩
           have HO8 := Lib.hid (HO5.out.next hE8)
           obtain ⟨x0, x1, x2⟩ := (HN5.out.ext hE8).cells
           clear hE8)
        | (go_at_call 65; (with_reducible refine (HP1.out _).mono ?_); rintro e w9 ⟨rfl, hE9⟩; have HO9 := Lib.hid (HO8.out.next hE9); clear hE9)
        | (go_at_call 78; (with_reducible refine (HA.out _).mono ?_); rintro e wb ⟨rfl, rfl⟩)
        | (go_at_call 22
           (with_reducible refine (HX.out _).mono ?_)
           rintro e w10 ⟨rfl, hE10⟩
           unfold nV
           obtain ⟨hz, hY⟩ := (HO9.out.next hE10).fill rk rn rf
           obtain ⟨⟨g0, g1, g2, g3, g4⟩, ⟨a0, a1, a2, a3, a4⟩, s0, s1, s2, s3, s4⟩ := hz
           unfold set5 at s0 s1 s2 s3 s4
           have HY := Lib.hid hY
           clear hY hE10)
        | fail)
      exact bodyPost_ret (v := nV rk rn rf re) (by simp [results, nV, Tryd.f49, go_sem, s0, s1, s2, s3, s4]) rfl ⟨by rw [HV.out], HY.out⟩
    · obtain rfl : k1 = 1 := by simpa using hq
      have hin := numV_int HR.out
      have hx : absV 1 n1 f true = mkI (n1.natAbs : Int) := by unfold absV; rw [if_neg (by decide), if_pos (by decide)]
      obtain ⟨rk, rn, rf, re, hmk⟩ := nV_form (.inl (mkI_form (n1.natAbs : Int)))
      have HV := Lib.hid (hx.trans hmk)
      have hX := fun w => pint_any (n1.natAbs : Int) w
      rw [hmk] at hX
      have hS := fun w => psize_any n1 hin w
      have e1 : IntKind.i64.wrap (n1.natAbs : Int) = (n1.natAbs : Int) := IntWalk.i64_in _ (by omega)
      generalize (n1.natAbs : Int) = g at hX hS e1
      have HX := Lib.hid hX
      have HS := Lib.hid hS
      clear HK1 hmk hx hX hq HR HF hin hS
      go_wp2_with (first
        | (go_at_call 61
           (with_reducible refine (HC3.out _).mono ?_)
           rintro e w8 ⟨rfl, hE8⟩
           have HO8 := Lib.hid (HO5.out.next hE8)
           obtain ⟨x0, x1, x2⟩ := (HN5.out.ext hE8).cells
           clear hE8)
        | (go_at_call 77; (with_reducible refine (HS.out _).mono ?_); rintro e wb ⟨rfl, rfl⟩)
        | (go_at_call 18
           (with_reducible refine (HX.out _).mono ?_)
           rintro e w10 ⟨rfl, hE10⟩
           unfold nV
           obtain ⟨hz, hY⟩ := (HO8.out.next hE10).fill rk rn rf
           obtain ⟨⟨g0, g1, g2, g3, g4⟩, ⟨a0, a1, a2, a3, a4⟩, s0, s1, s2, s3, s4⟩ := hz
           unfold set5 at s0 s1 s2 s3 s4
           have HY := Lib.hid hY
           clear hY hE10)
        | fail)
      exact bodyPost_ret (v := nV rk rn rf re) (by simp [results, nV, Tryd.f49, go_sem, s0, s1, s2, s3, s4]) rfl ⟨by rw [HV.out], HY.out⟩

end Go.Proofs.YtlpifchimnnfdaaDoor
