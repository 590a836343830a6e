/- Twin: a term is its own twin. -/
import Derived.Test.YtdimmomjildpcaaTmLook
namespace Go.Proofs.Ytdimmomjildpcaa
open Go.RowKit
attribute [local irreducible] Ext

set_option maxRecDepth 100000 in
set_option maxHeartbeats 4000000 in
theorem twin_any (t : Tm) : ∀ (o1 o2 : Bool) (G1 G2 : Nat → Prop) (v1 v2 : Value) (w : World), TmV w o1 G1 v1 t → TmV w o2 G2 v2 t → cntT t ≤ 100000000 →
    Calls Try.prog 14 #[v1, v2] w fun e w' => e = .returned (.bool true) ∧ Ext w w' := by
  induction t using Tm.ind with
  | h t ih =>
    obtain ⟨k, n, f, s, L⟩ := t
    intro o1 o2 G1 G2 v1 v2 w hv1 hv2 hcnt
    obtain ⟨so1, cap1, rfl, hrow1⟩ := hv1.parts
    obtain ⟨so2, cap2, rfl, hrow2⟩ := hv2.parts
    simp only [Tm.l] at ih
    simp only [cntT] at hcnt
    clear hv1 hv2
    have hll := len_cnt L
    have HIH := Lib.hid ih
    have HC := Lib.hid (And.intro hcnt hll)
    have hE1 := (Ext.refl w).alloc (.cells #[.int .i64 k, .int .i64 n, .float .f64 f, .string s, .slice so1 L.length cap1] 25)
    have hB1 := RBox.new w k n f s so1 L.length cap1
    have hB2 := RBox.new (w.alloc (.cells #[.int .i64 k, .int .i64 n, .float .f64 f, .string s, .slice so1 L.length cap1] 25)) k n f s so2 L.length cap2
    rw [World.size_alloc] at hB2
    have hE2 := hE1.alloc (.cells #[.int .i64 k, .int .i64 n, .float .f64 f, .string s, .slice so2 L.length cap2] 25)
    have hB1' := hB1.ext ((Ext.refl _).alloc (.cells #[.int .i64 k, .int .i64 n, .float .f64 f, .string s, .slice so2 L.length cap2] 25))
    have HE := Lib.hid hE2
    have HB1 := Lib.hid hB1'
    have HB2 := Lib.hid hB2
    have HR1 := Lib.hid (hrow1.ext hE2)
    have HR2 := Lib.hid (hrow2.ext hE2)
    have hb := run_bits f
    clear ih hcnt hll hrow1 hrow2 hE1 hE2 hB1 hB2 hB1'
    go_enter Try.func14, Try.ntmps14
    go_upto_region 1 with (fail)
    obtain ⟨w1, hw1⟩ : ∃ w1, (w.alloc (.cells #[.int .i64 k, .int .i64 n, .float .f64 f, .string s, .slice so1 L.length cap1] 25)).alloc (.cells #[.int .i64 k, .int .i64 n, .float .f64 f, .string s, .slice so2 L.length cap2] 25) = w1 := ⟨_, rfl⟩
    rw [hw1] at HB1 HB2 HR1 HR2 HE ⊢
    clear hw1
    obtain ⟨z0, z1, z2, z3, z4⟩ := HB1.out.cells
    obtain ⟨y0, y1, y2, y3, y4⟩ := HB2.out.cells
    go_quiet (fail)
    clear hb z0 z1 z2 z3 z4 y0 y1 y2 y3 y4
    have HEq := Lib.hid ((Ext.refl w1).drewN nq)
    go_wp2_with fail
    go_loopg [5] L.length (fun g i wr => Hid (Ext w1 wr) ∧ ∃ (j : Nat), j + g = L.length ∧ i = .int .i64 j)
    case atStart => exact ⟨HEq, 0, by omega, rfl⟩
    case round =>
      clear HEq
      obtain ⟨HEr, j, hj, rfl⟩ := hrel
      obtain ⟨_, _, _, _, z4⟩ := (HB1.out.ext HEr.out).cells
      obtain ⟨_, _, _, _, y4⟩ := (HB2.out.ext HEr.out).cells
      by_cases hlt : j < L.length
      · have c1 : decide ((j : Int) < (L.length : Int)) = true := decide_eq_true (by omega)
        have c1' : decide (j < L.length) = true := decide_eq_true hlt
        obtain ⟨x, hx⟩ : ∃ x, L[j]? = some x := ⟨L[j]'hlt, List.getElem?_eq_getElem hlt⟩
        obtain ⟨b1, p1, so', cap', rfl, q0, q1, q2, q3, q4, htm⟩ := (HR1.out.ext HEr.out).elem hx
        obtain ⟨b2, p2, so'', cap'', rfl, r0, r1, r2, r3, r4, htm'⟩ := (HR2.out.ext HEr.out).elem hx
        have hmem := List.mem_of_getElem? hx
        have hcall := HIH.out x hmem o1 o2 G1 G2 _ _ wr.drew (htm.ext (Ext.refl wr).drew) (htm'.ext (Ext.refl wr).drew) (by have := HC.out; have := cnt_mem hmem; omega)
        unfold elV at hcall
        have e2 : IntKind.i64.wrap ((j : Int) + 1) = ((j + 1 : Nat) : Int) := by rw [IntWalk.i64_in _ (by have := HC.out; omega)]; rfl
        have s0 : (0 : Int) ≤ (j : Int) := by omega
        have s1 : (j : Int) < (L.length : Int) := by omega
        clear htm htm' hx hmem
        go_upto_region 6 with (fail)
        go_region_law (first
          | (go_simp; go_at_call 14; (with_reducible refine hcall.mono ?_); rintro e w2 ⟨rfl, hE2⟩; have HE2 := Lib.hid ((HEr.out.trans (Ext.refl wr).drew).trans hE2); clear hE2)
          | fail)
        all_goals clear hcall q0 q1 q2 q3 q4 r0 r1 r2 r3 r4 z4 y4
        all_goals go_wp2_with fail
        all_goals (go_roundg (L.length - j - 1))
        all_goals first
          | omega
          | exact ⟨HE2, j + 1, by omega, rfl⟩
      · have c1 : decide ((j : Int) < (L.length : Int)) = false := decide_eq_false (by omega)
        have c1' : decide (j < L.length) = false := decide_eq_false hlt
        go_wp2_with fail
        go_ret
        exact ⟨rfl, HE.out.trans HEr.out⟩

end Go.Proofs.Ytdimmomjildpcaa
