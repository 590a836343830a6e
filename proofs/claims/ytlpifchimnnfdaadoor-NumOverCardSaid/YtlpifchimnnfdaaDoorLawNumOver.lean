/- NumOver: a sum, a difference, a product, a quotient of two finite floats is refused just where float64's is not finite, or the divisor is a zero; else it is float64's. -/
import Derived.Test.YtlpifchimnnfdaaDoorNmArg
import Derived.Test.YtlpifchimnnfdaaDoorNmOverWalk
namespace Go.Proofs.YtlpifchimnnfdaaDoor
open Go.ChangeShapes Go.WideShapes Go.ChangeAt Go.RowKit

theorem numOver_laid (os : Os) : laidMet Tryd.prog Rows.numOverRow.laid ((laidWorld os).forCall (fun _ _ => 0) ⟨#[], #[.int .u64 0, .int .u64 0], []⟩).memory :=
  laidMet_of_run' 8 (by kernel_rfl) (by kernel_rfl)

theorem numOver_reads (os : Os) {H : Type} (enc : TypeId × Value → H) : ∃ places, DataW.whole enc Tryd.prog ((laidWorld os).forCall (fun _ _ => 0) ⟨#[], #[.int .u64 0, .int .u64 0], []⟩).memory Tryd.f7.params.toList Rows.numOverSpec.vars false #[Value.int .u64 0, .int .u64 0].toList 8 =
    some ([.lit (.int .u64 0), .lit (.int .u64 0)], [], places) :=
  ⟨[], by kernel_rfl⟩

set_option maxRecDepth 100000 in
theorem numOver_lifted (os : Os) (started : os.Started) (H : Type) (enc : TypeId × Value → H) (Fi : Stop.Interp) :
    ReturnsInHanded {} Tryd.checked os 7 .any ((OpenSpec.ofChange Rows.numOverSpec).preRow enc Tryd.prog Tryd.f7 Rows.numOverRow.domain false Rows.numOverRow.laid) (((OpenSpec.ofChange Rows.numOverSpec).at Fi).post enc Tryd.prog Tryd.f7 false true false false) := by
  obtain ⟨places, hx⟩ := numOver_reads os enc
  refine lift_row started 7 Tryd.f7 Rows.numOverSpec Fi (by kernel_rfl) Tryd.func7 rfl rfl (by decide +kernel) ?_
    (witness_row_at (enc := enc) (C := Tryd.checked) false (laidWorld os) #[.int .u64 0, .int .u64 0] rfl (by kernel_rfl) (by kernel_rfl) (by kernel_rfl)
      (OpenSpec.preRow_of_cond 8 hx (by kernel_rfl) (fun k hk => by cases hk) (by kernel_rfl) (numOver_laid os))) ?_
  · intro ds hl
    match ds, hl with
    | [_, _], _ => rfl
  · intro W base args ds p hval hA hlt ht hL
    rw [Tryd.params7] at hA hval
    obtain ⟨v0, vs0, d0, ds0, p0, q0, hargs, rfl, rfl, h0, r0⟩ := trodAll_cons hA
    obtain ⟨v1, vs1, d1, ds1, p1, q1, rfl, rfl, rfl, h1, r1⟩ := trodAll_cons r0
    obtain ⟨rfl, rfl, rfl⟩ := trodAll_nil r1
    obtain rfl : args = #[v0, v1] := by cases args; simp_all
    obtain ⟨z0, rfl, rfl, rfl, wz0⟩ := open_int Tryd.underlying22 (hval 0 22 v0 rfl rfl) h0
    have hz0 := range_u64 wz0
    obtain ⟨u0, rfl⟩ := Int.eq_ofNat_of_zero_le hz0.1
    obtain ⟨z1, rfl, rfl, rfl, wz1⟩ := open_int Tryd.underlying22 (hval 1 22 v1 rfl rfl) h1
    have hz1 := range_u64 wz1
    obtain ⟨u1, rfl⟩ := Int.eq_ofNat_of_zero_le hz1.1
    exact (numOver_any u0 u1 (by omega) (by omega) W ht).mono (fun e w' h => ⟨h.1, h.2.below⟩)

theorem numOver_said : Rows.NumOverSaid :=
  OpenClaim.holds_of_cond 7 Tryd.f7 rfl rfl rfl rfl rfl rfl rfl ⟨rfl, rfl, rfl, rfl, rfl⟩ rfl rfl rfl rfl rfl (by kernel_rfl) Tryd.func7 (by kernel_rfl)
    (of_decide_eq_true (by kernel_rfl)) (by unfold Func.isWrapper; first | (rw [if_pos (by decide +kernel)]; kernel_rfl) | (rw [if_neg (by decide +kernel)]; exact ⟨rfl, rfl⟩))
    (fun os started H enc _ Fi => by rw [OpenClaim.pre_eq_preRow]; exact numOver_lifted os started H enc Fi)

theorem numOver_plain (f : FuncId) (fn : Func) (hf : Tryd.pinned.checked.prog.funcNamed "exitwave/exitwavelaw1.NumOver" = some f) (hfn : Tryd.pinned.checked.prog.funcs[f]? = some fn) :
    false = Tryd.pinned.checked.prog.looks [] ∧ ∀ (j : Nat) t, fn.params[j]? = some t → Tryd.pinned.checked.prog.wantsStandIn t = false := by
  obtain rfl : f = 7 := Option.some.inj ((show Tryd.prog.funcNamed "exitwave/exitwavelaw1.NumOver" = some 7 by kernel_rfl).symm.trans hf) |>.symm
  obtain rfl : fn = Tryd.f7 := (Option.some.inj (Tryd.func7.symm.trans hfn)).symm
  refine ⟨by kernel_rfl, fun j t ht => ?_⟩
  rw [Tryd.params7] at ht
  have hm := Array.mem_of_getElem? ht
  have hall : ∀ t ∈ (#[22, 22] : Array TypeId), Tryd.prog.wantsStandIn t = false := by decide +kernel
  exact hall t hm

theorem numOver_holds : Rows.NumOverCardSaid :=
  Claim7.holds_tied_plain_at .later [] _ _ _ _ numOver_said (fun _ h => by cases h) (by kernel_rfl) (fun _ h => by cases h) numOver_row_tie rfl ⟨rfl, rfl⟩ (by kernel_rfl) rfl numOver_plain (by kernel_rfl)

end Go.Proofs.YtlpifchimnnfdaaDoor
