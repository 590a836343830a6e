/- Numbers: the program's Neg, Abs, Real. -/
import Derived.Test.YtlpifchimnnfdaaDoorNmOpDef
namespace Go.Proofs.YtlpifchimnnfdaaDoor
open Go.RowKit
attribute [local irreducible] Ext
attribute [local go_sem] run_store_float

theorem unary_negf (k : FloatKind) (b : Nat) : Op.unary .neg (.float k b) = pure (.float k (Op.negFloat k b)) := rfl

attribute [local go_sem] unary_negf

/-- Where a function of one term stands: its argument's box, its result's box. -/
structure OneAt (w w' : World) (k n : Int) (f : Nat) (s : ByteArray) (so : Option Addr) (m cap : Nat) : Prop where
  ext : Ext w w'
  a : RBox w' w.heap.size k n f s so m cap
  z : RBox w' (w.heap.size + 1) 0 0 0 ⟨#[]⟩ none 0 0

theorem OneAt.next {w w' w'' : World} {k n : Int} {f : Nat} {s : ByteArray} {so : Option Addr} {m cap : Nat} (h : OneAt w w' k n f s so m cap) (hE : Ext w' w'') : OneAt w w'' k n f s so m cap :=
  ⟨h.ext.trans hE, h.a.ext hE, h.z.ext hE⟩

theorem one_start (w : World) (k n : Int) (f : Nat) (s : ByteArray) (so : Option Addr) (m cap : Nat) :
    ∃ w2, (w.alloc (.cells #[.int .i64 k, .int .i64 n, .float .f64 f, .string s, .slice so m cap] 27)).alloc (.cells #[.int .i64 0, .int .i64 0, .float .f64 0, .string ⟨#[]⟩, .slice none 0 0] 27) = w2 ∧
      OneAt w w2 k n f s so m cap := by
  refine ⟨_, rfl, ?_⟩
  have e1 := (Ext.refl w).alloc (.cells #[.int .i64 k, .int .i64 n, .float .f64 f, .string s, .slice so m cap] 27)
  have b1 := RBox.new w k n f s so m cap
  have s1 : (w.alloc (.cells #[.int .i64 k, .int .i64 n, .float .f64 f, .string s, .slice so m cap] 27)).heap.size = w.heap.size + 1 := World.size_alloc _ _
  generalize w.alloc (.cells #[.int .i64 k, .int .i64 n, .float .f64 f, .string s, .slice so m cap] 27) = w1 at e1 b1 s1 ⊢
  have e2 := (Ext.refl w1).alloc (.cells #[.int .i64 0, .int .i64 0, .float .f64 0, .string ⟨#[]⟩, .slice none 0 0] 27)
  have b2 := RBox.new w1 0 0 0 ⟨#[]⟩ none 0 0
  rw [s1] at b2
  exact ⟨e1.trans e2, b1.ext e2, b2⟩

/-- The result's cells at the end. -/
theorem OneAt.fill {w W : World} {k n : Int} {f : Nat} {s : ByteArray} {so : Option Addr} {m cap : Nat} (h : OneAt w W k n f s so m cap) (rk rn : Int) (rf : Nat) :
    ZFacts W (w.heap.size + 1) rk rn rf ∧ Ext w (set5 W (w.heap.size + 1) rk rn rf ⟨#[]⟩ none 0 0) :=
  ⟨zfacts h.z rk rn rf, ext_set5 (B := w.heap.size + 1) h.ext (by omega) rk rn rf ⟨#[]⟩ none 0 0⟩

/-- A float with another sign. -/
def xneg (f : Nat) : Nat := Op.negFloat .f64 f

/-- What Neg, Abs, Real tell. -/
def negV (k n : Int) (f : Nat) (r : Bool) : Value := if r = false then nV 0 0 0 11 else if (k == 1) = true then mkI (-n) else mkF (xneg f)
def absV (k n : Int) (f : Nat) (r : Bool) : Value := if r = false then nV 0 0 0 11 else if (k == 1) = true then mkI (n.natAbs : Int) else mkF (f % 9223372036854775808)
def reV (k n : Int) (f : Nat) (r : Bool) : Value := if r = false then nV 0 0 0 13 else mkF (realF k n f)

theorem xneg_lt {f : Nat} (h : f < 18446744073709551616) : xneg f < 18446744073709551616 := by
  unfold xneg Op.negFloat
  have : 2 ^ (FloatKind.f64.format.exponentBits + FloatKind.f64.format.fractionBits) = 2 ^ 63 := rfl
  rw [this]
  exact Nat.xor_lt_two_pow (n := 64) h (by decide)

theorem numV_float {n : Int} {f : Nat} {s : ByteArray} {m : Nat} {k : Int} (h : numV k n f s m = true) : k = 1 ∨ k = 2 := by
  unfold numV at h
  by_cases h1 : k = 1
  · exact .inl h1
  · rw [if_neg h1] at h
    by_cases h2 : k = 2
    · exact .inr h2
    · rw [if_neg h2] at h; cases h

set_option maxRecDepth 100000 in
set_option maxHeartbeats 4000000 in
theorem preal1_any (k n : Int) (f : Nat) (s : ByteArray) (so : Option Addr) (m cap : Nat) (hf : f < 18446744073709551616) (w : World) :
    Calls Tryd.prog 34 #[.agg #[.int .i64 k, .int .i64 n, .float .f64 f, .string s, .slice so m cap]] w fun e w' => e = .returned (reV k n f (numV k n f s m)) ∧ Ext w w' := by
  obtain ⟨w2, hw, hO⟩ := one_start w k n f s so m cap
  have HW := Lib.hid hw
  have HO := Lib.hid hO
  have HC1 := Lib.hid (fun w => of_any k n f s so m cap hf w)
  obtain ⟨r, hr⟩ : ∃ r, numV k n f s m = r := ⟨_, rfl⟩
  rw [hr] at HC1 ⊢
  have HF := Lib.hid hf
  obtain ⟨c0, c1, c2, c3, c4⟩ := hO.a.cells
  clear hw hO hf hr
  go_enter Tryd.func34, Tryd.ntmps34
  go_upto_region 1 with (fail)
  rw [HW.out]
  go_upto_region 2 with (first
    | ((with_reducible refine (HC1.out _).mono ?_)
       rintro e w4 ⟨k1, n1, f1, rfl, hk1, hE4⟩
       unfold ofV
       have hn := NBox.new w4 k1 n1 f1
       have hEx := (Ext.refl w4).alloc (.cells #[.int .i64 k1, .int .i64 n1, .int .u64 f1] 71)
       obtain ⟨w5, hw5⟩ : ∃ w5, w4.alloc (.cells #[.int .i64 k1, .int .i64 n1, .int .u64 f1] 71) = w5 := ⟨_, rfl⟩
       rw [hw5] at hn hEx
       have HO5 := Lib.hid ((HO.out.next hE4).next hEx)
       have HN5 := Lib.hid hn
       have HK1 := Lib.hid hk1
       clear hn hEx hk1 hE4 c0 c1 c2 c3 c4)
    | fail)
  clear hw5
  have HN5 := HN5.out
  generalize w4.heap.size = B1 at HN5 ⊢
  cases r
  · obtain ⟨hz, hY⟩ := HO5.out.fill 0 0 0
    obtain ⟨⟨g0, g1, g2, g3, g4⟩, ⟨a0, a1, a2, a3, a4⟩, s0, s1, s2, s3, s4⟩ := hz
    unfold set5 at s0 s1 s2 s3 s4
    have HY := Lib.hid hY
    clear hY HN5 HO HO5
    go_wp2_with fail
    exact bodyPost_ret (v := nV 0 0 0 13) (by simp [results, nV, Tryd.f34, go_sem, s0, s1, s2, s3, s4]) rfl ⟨rfl, HY.out⟩
  · obtain ⟨rfl, rfl, rfl⟩ := HK1.out rfl
    obtain ⟨d0, d1, d2⟩ := HN5.cells
    obtain ⟨rk, rn, rf, re, hmk⟩ := nV_form (.inr (mkF_form (realF k1 n1 f)))
    have HV := Lib.hid (show reV k1 n1 f true = nV rk rn rf re from hmk)
    have hlt : realF k1 n1 f < 18446744073709551616 := by
      unfold realF
      split
      · exact nearF_lt n1
      · exact HF.out
    have HX := Lib.hid (fun w => pfloat_any (realF k1 n1 f) hlt w)
    rw [hmk] at HX
    have HP1 := Lib.hid (fun w => preal_any k1 n1 f w)
    clear HK1 hmk hlt HN5
    go_wp2_with (first
      | (go_at_call 65; (with_reducible refine (HP1.out _).mono ?_); rintro e w8 ⟨rfl, hE8⟩; have HO8 := Lib.hid (HO5.out.next hE8); clear hE8)
      | (go_at_call 22
         (with_reducible refine (HX.out _).mono ?_)
         rintro e w9 ⟨rfl, hE9⟩
         unfold nV
         obtain ⟨hz, hY⟩ := (HO8.out.next hE9).fill rk rn rf
         obtain ⟨⟨g0, g1, g2, g3, g4⟩, ⟨a0, a1, a2, a3, a4⟩, s0, s1, s2, s3, s4⟩ := hz
         unfold set5 at s0 s1 s2 s3 s4
         have HY := Lib.hid hY
         clear hY hE9)
      | fail)
    exact bodyPost_ret (v := nV rk rn rf re) (by simp [results, nV, Tryd.f34, go_sem, s0, s1, s2, s3, s4]) rfl ⟨by rw [HV.out], HY.out⟩

set_option maxRecDepth 100000 in
set_option maxHeartbeats 4000000 in
theorem pneg_any (k n : Int) (f : Nat) (s : ByteArray) (so : Option Addr) (m cap : Nat) (hf : f < 18446744073709551616) (w : World) :
    Calls Tryd.prog 35 #[.agg #[.int .i64 k, .int .i64 n, .float .f64 f, .string s, .slice so m cap]] w fun e w' => e = .returned (negV k n f (numV k n f s m)) ∧ Ext w w' := by
  obtain ⟨w2, hw, hO⟩ := one_start w k n f s so m cap
  have HW := Lib.hid hw
  have HO := Lib.hid hO
  have HC1 := Lib.hid (fun w => of_any k n f s so m cap hf w)
  obtain ⟨r, hr⟩ : ∃ r, numV k n f s m = r := ⟨_, rfl⟩
  rw [hr] at HC1 ⊢
  have HR := Lib.hid hr
  have HF := Lib.hid hf
  obtain ⟨c0, c1, c2, c3, c4⟩ := hO.a.cells
  clear hw hO hf hr
  go_enter Tryd.func35, Tryd.ntmps35
  go_upto_region 1 with (fail)
  rw [HW.out]
  go_upto_region 2 with (first
    | ((with_reducible refine (HC1.out _).mono ?_)
       rintro e w4 ⟨k1, n1, f1, rfl, hk1, hE4⟩
       unfold ofV
       have hn := NBox.new w4 k1 n1 f1
       have hEx := (Ext.refl w4).alloc (.cells #[.int .i64 k1, .int .i64 n1, .int .u64 f1] 71)
       obtain ⟨w5, hw5⟩ : ∃ w5, w4.alloc (.cells #[.int .i64 k1, .int .i64 n1, .int .u64 f1] 71) = w5 := ⟨_, rfl⟩
       rw [hw5] at hn hEx
       have HO5 := Lib.hid ((HO.out.next hE4).next hEx)
       have HN5 := Lib.hid hn
       have HK1 := Lib.hid hk1
       clear hn hEx hk1 hE4 c0 c1 c2 c3 c4)
    | fail)
  clear hw5
  have HN5 := HN5.out
  generalize w4.heap.size = B1 at HN5 ⊢
  cases r
  · obtain ⟨hz, hY⟩ := HO5.out.fill 0 0 0
    obtain ⟨⟨g0, g1, g2, g3, g4⟩, ⟨a0, a1, a2, a3, a4⟩, s0, s1, s2, s3, s4⟩ := hz
    unfold set5 at s0 s1 s2 s3 s4
    have HY := Lib.hid hY
    clear hY HN5 HO HO5
    go_wp2_with fail
    exact bodyPost_ret (v := nV 0 0 0 11) (by simp [results, nV, Tryd.f35, go_sem, s0, s1, s2, s3, s4]) rfl ⟨rfl, HY.out⟩
  · obtain ⟨rfl, rfl, rfl⟩ := HK1.out rfl
    obtain ⟨d0, d1, d2⟩ := HN5.cells
    have HN5 := Lib.hid HN5
    obtain ⟨q, hq⟩ : ∃ q, (k1 == 1) = q := ⟨_, rfl⟩
    have HC3 := Lib.hid (fun w => whole_any k1 n1 f w)
    rw [hq] at HC3
    cases q
    · have hx : negV k1 n1 f true = mkF (xneg f) := by unfold negV; rw [if_neg (by decide), if_neg (by rw [hq]; decide)]
      obtain ⟨rk, rn, rf, re, hmk⟩ := nV_form (.inr (mkF_form (xneg f)))
      have HV := Lib.hid (hx.trans hmk)
      have HX := Lib.hid (fun w => pfloat_any (xneg f) (xneg_lt HF.out) w)
      rw [hmk] at HX
      have hp := fun w => preal_any k1 n1 f w
      rw [show realF k1 n1 f = f by unfold realF; rw [if_neg (by rw [hq]; decide)]] at hp
      have HP1 := Lib.hid hp
      clear HK1 hmk hx hp hq HR HF
      unfold xneg at HX
      go_wp2_with (first
        | (go_at_call 61
           (with_reducible refine (HC3.out _).mono ?_)
           rintro e w8 ⟨rfl, hE8⟩
           have HO8 := Lib.hid (HO5.out.next hE8)
           obtain ⟨x0, x1, x2⟩ := (HN5.out.ext hE8).cells
           clear hE8)
        | (go_at_call 65; (with_reducible refine (HP1.out _).mono ?_); rintro e w9 ⟨rfl, hE9⟩; have HO9 := Lib.hid (HO8.out.next hE9); clear hE9)
        | (go_at_call 22
           (with_reducible refine (HX.out _).mono ?_)
           rintro e w10 ⟨rfl, hE10⟩
           unfold nV
           obtain ⟨hz, hY⟩ := (HO9.out.next hE10).fill rk rn rf
           obtain ⟨⟨g0, g1, g2, g3, g4⟩, ⟨a0, a1, a2, a3, a4⟩, s0, s1, s2, s3, s4⟩ := hz
           unfold set5 at s0 s1 s2 s3 s4
           have HY := Lib.hid hY
           clear hY hE10)
        | fail)
      exact bodyPost_ret (v := nV rk rn rf re) (by simp [results, nV, Tryd.f35, go_sem, s0, s1, s2, s3, s4]) rfl ⟨by rw [HV.out], HY.out⟩
    · obtain rfl : k1 = 1 := by simpa using hq
      have hin := numV_int HR.out
      have hx : negV 1 n1 f true = mkI (-n1) := by unfold negV; rw [if_neg (by decide), if_pos (by decide)]
      obtain ⟨rk, rn, rf, re, hmk⟩ := nV_form (.inl (mkI_form (-n1)))
      have HV := Lib.hid (hx.trans hmk)
      have hX := fun w => pint_any (-n1) w
      rw [hmk] at hX
      have HX := Lib.hid hX
      have e1 : IntKind.i64.wrap (-n1) = -n1 := IntWalk.i64_in _ (by omega)
      have e2 : IntKind.i64.wrap (0 - n1) = -n1 := by rw [Int.zero_sub]; exact e1
      clear HK1 hmk hx hX hq HR HF hin
      go_wp2_with (first
        | (go_at_call 61
           (with_reducible refine (HC3.out _).mono ?_)
           rintro e w8 ⟨rfl, hE8⟩
           have HO8 := Lib.hid (HO5.out.next hE8)
           obtain ⟨x0, x1, x2⟩ := (HN5.out.ext hE8).cells
           clear hE8)
        | (go_at_call 18
           (with_reducible refine (HX.out _).mono ?_)
           rintro e w10 ⟨rfl, hE10⟩
           unfold nV
           obtain ⟨hz, hY⟩ := (HO8.out.next hE10).fill rk rn rf
           obtain ⟨⟨g0, g1, g2, g3, g4⟩, ⟨a0, a1, a2, a3, a4⟩, s0, s1, s2, s3, s4⟩ := hz
           unfold set5 at s0 s1 s2 s3 s4
           have HY := Lib.hid hY
           clear hY hE10)
        | fail)
      exact bodyPost_ret (v := nV rk rn rf re) (by simp [results, nV, Tryd.f35, go_sem, s0, s1, s2, s3, s4]) rfl ⟨by rw [HV.out], HY.out⟩

end Go.Proofs.YtlpifchimnnfdaaDoor
