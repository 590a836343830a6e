/- NumFinite: whatever is reckoned: what is told is a right number, never NaN or an infinity, or nothing; sums and products know no order of two. -/
import Derived.Test.YtlpifchimnnfdaaDoorNmArg
import Derived.Test.YtlpifchimnnfdaaDoorNmFinWalk
namespace Go.Proofs.YtlpifchimnnfdaaDoor
open Go.ChangeShapes Go.WideShapes Go.ChangeAt Go.RowKit

theorem numFinite_laid (os : Os) : laidMet Tryd.prog Rows.numFiniteRow.laid ((laidWorld os).forCall (fun _ _ => 0) ⟨#[], #[.int .u64 0, .int .u64 0, .int .i64 0, .int .i64 0], []⟩).memory :=
  laidMet_of_run' 8 (by kernel_rfl) (by kernel_rfl)

theorem numFinite_reads (os : Os) {H : Type} (enc : TypeId × Value → H) : ∃ places, DataW.whole enc Tryd.prog ((laidWorld os).forCall (fun _ _ => 0) ⟨#[], #[.int .u64 0, .int .u64 0, .int .i64 0, .int .i64 0], []⟩).memory Tryd.f5.params.toList Rows.numFiniteSpec.vars false #[Value.int .u64 0, .int .u64 0, .int .i64 0, .int .i64 0].toList 8 =
    some ([.lit (.int .u64 0), .lit (.int .u64 0), .lit (.int .i64 0), .lit (.int .i64 0)], [], places) :=
  ⟨[], by kernel_rfl⟩

set_option maxRecDepth 100000 in
theorem numFinite_lifted (os : Os) (started : os.Started) (H : Type) (enc : TypeId × Value → H) (Fi : Stop.Interp) :
    ReturnsInHanded {} Tryd.checked os 5 .any ((OpenSpec.ofChange Rows.numFiniteSpec).preRow enc Tryd.prog Tryd.f5 Rows.numFiniteRow.domain false Rows.numFiniteRow.laid) (((OpenSpec.ofChange Rows.numFiniteSpec).at Fi).post enc Tryd.prog Tryd.f5 false true false false) := by
  obtain ⟨places, hx⟩ := numFinite_reads os enc
  refine lift_row started 5 Tryd.f5 Rows.numFiniteSpec Fi (by kernel_rfl) Tryd.func5 rfl rfl (by decide +kernel) ?_
    (witness_row_at (enc := enc) (C := Tryd.checked) false (laidWorld os) #[.int .u64 0, .int .u64 0, .int .i64 0, .int .i64 0] rfl (by kernel_rfl) (by kernel_rfl) (by kernel_rfl)
      (OpenSpec.preRow_of_cond 8 hx (by kernel_rfl) (fun k hk => by cases hk) (by kernel_rfl) (numFinite_laid os))) ?_
  · intro ds hl
    match ds, hl with
    | [_, _, _, _], _ => rfl
  · intro W base args ds p hval hA hlt ht hL
    rw [Tryd.params5] at hA hval
    obtain ⟨v0, vs0, d0, ds0, p0, q0, hargs, rfl, rfl, h0, r0⟩ := trodAll_cons hA
    obtain ⟨v1, vs1, d1, ds1, p1, q1, rfl, rfl, rfl, h1, r1⟩ := trodAll_cons r0
    obtain ⟨v2, vs2, d2, ds2, p2, q2, rfl, rfl, rfl, h2, r2⟩ := trodAll_cons r1
    obtain ⟨v3, vs3, d3, ds3, p3, q3, rfl, rfl, rfl, h3, r3⟩ := trodAll_cons r2
    obtain ⟨rfl, rfl, rfl⟩ := trodAll_nil r3
    obtain rfl : args = #[v0, v1, v2, v3] := by cases args; simp_all
    obtain ⟨z0, rfl, rfl, rfl, wz0⟩ := open_int Tryd.underlying22 (hval 0 22 v0 rfl rfl) h0
    have hz0 := range_u64 wz0
    obtain ⟨u0, rfl⟩ := Int.eq_ofNat_of_zero_le hz0.1
    obtain ⟨z1, rfl, rfl, rfl, wz1⟩ := open_int Tryd.underlying22 (hval 1 22 v1 rfl rfl) h1
    have hz1 := range_u64 wz1
    obtain ⟨u1, rfl⟩ := Int.eq_ofNat_of_zero_le hz1.1
    obtain ⟨n2, rfl, rfl, rfl, wn2⟩ := open_int Tryd.underlying2 (hval 2 2 v2 rfl rfl) h2
    obtain ⟨n3, rfl, rfl, rfl, wn3⟩ := open_int Tryd.underlying2 (hval 3 2 v3 rfl rfl) h3
    exact (numFin_any u0 u1 n2 n3 (by omega) (by omega) (range_i64 wn2) (range_i64 wn3) W ht).mono (fun e w' h => ⟨h.1, h.2.below⟩)

theorem numFinite_said : Rows.NumFiniteSaid :=
  OpenClaim.holds_of_cond 5 Tryd.f5 rfl rfl rfl rfl rfl rfl rfl ⟨rfl, rfl, rfl, rfl, rfl⟩ rfl rfl rfl rfl rfl (by kernel_rfl) Tryd.func5 (by kernel_rfl)
    (of_decide_eq_true (by kernel_rfl)) (by unfold Func.isWrapper; first | (rw [if_pos (by decide +kernel)]; kernel_rfl) | (rw [if_neg (by decide +kernel)]; exact ⟨rfl, rfl⟩))
    (fun os started H enc _ Fi => by rw [OpenClaim.pre_eq_preRow]; exact numFinite_lifted os started H enc Fi)

theorem numFinite_plain (f : FuncId) (fn : Func) (hf : Tryd.pinned.checked.prog.funcNamed "exitwave/exitwavelaw1.NumFinite" = some f) (hfn : Tryd.pinned.checked.prog.funcs[f]? = some fn) :
    false = Tryd.pinned.checked.prog.looks [] ∧ ∀ (j : Nat) t, fn.params[j]? = some t → Tryd.pinned.checked.prog.wantsStandIn t = false := by
  obtain rfl : f = 5 := Option.some.inj ((show Tryd.prog.funcNamed "exitwave/exitwavelaw1.NumFinite" = some 5 by kernel_rfl).symm.trans hf) |>.symm
  obtain rfl : fn = Tryd.f5 := (Option.some.inj (Tryd.func5.symm.trans hfn)).symm
  refine ⟨by kernel_rfl, fun j t ht => ?_⟩
  rw [Tryd.params5] at ht
  have hm := Array.mem_of_getElem? ht
  have hall : ∀ t ∈ (#[22, 22, 2, 2] : Array TypeId), Tryd.prog.wantsStandIn t = false := by decide +kernel
  exact hall t hm

theorem numFinite_holds : Rows.NumFiniteCardSaid :=
  Claim7.holds_tied_plain_at .later [] _ _ _ _ numFinite_said (fun _ h => by cases h) (by kernel_rfl) (fun _ h => by cases h) numFinite_row_tie rfl ⟨rfl, rfl⟩ (by kernel_rfl) rfl numFinite_plain (by kernel_rfl)

end Go.Proofs.YtlpifchimnnfdaaDoor
