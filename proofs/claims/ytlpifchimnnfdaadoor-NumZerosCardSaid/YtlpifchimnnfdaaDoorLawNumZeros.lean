/- NumZeros: the two zeros are equal, and not the same; the sign of a zero is that of float64's rules: sums, products, negatives, sizes. -/
import Derived.Test.YtlpifchimnnfdaaDoorNmArg
import Derived.Test.YtlpifchimnnfdaaDoorNmZerosWalk
namespace Go.Proofs.YtlpifchimnnfdaaDoor
open Go.ChangeShapes Go.WideShapes Go.ChangeAt Go.RowKit

theorem numZeros_laid (os : Os) : laidMet Tryd.prog Rows.numZerosRow.laid ((laidWorld os).forCall (fun _ _ => 0) ⟨#[], #[.int .u64 0], []⟩).memory :=
  laidMet_of_run' 8 (by kernel_rfl) (by kernel_rfl)

theorem numZeros_reads (os : Os) {H : Type} (enc : TypeId × Value → H) : ∃ places, DataW.whole enc Tryd.prog ((laidWorld os).forCall (fun _ _ => 0) ⟨#[], #[.int .u64 0], []⟩).memory Tryd.f13.params.toList Rows.numZerosSpec.vars false #[Value.int .u64 0].toList 8 =
    some ([.lit (.int .u64 0)], [], places) :=
  ⟨[], by kernel_rfl⟩

set_option maxRecDepth 100000 in
theorem numZeros_lifted (os : Os) (started : os.Started) (H : Type) (enc : TypeId × Value → H) (Fi : Stop.Interp) :
    ReturnsInHanded {} Tryd.checked os 13 .any ((OpenSpec.ofChange Rows.numZerosSpec).preRow enc Tryd.prog Tryd.f13 Rows.numZerosRow.domain false Rows.numZerosRow.laid) (((OpenSpec.ofChange Rows.numZerosSpec).at Fi).post enc Tryd.prog Tryd.f13 false true false false) := by
  obtain ⟨places, hx⟩ := numZeros_reads os enc
  refine lift_row started 13 Tryd.f13 Rows.numZerosSpec Fi (by kernel_rfl) Tryd.func13 rfl rfl (by decide +kernel) ?_
    (witness_row_at (enc := enc) (C := Tryd.checked) false (laidWorld os) #[.int .u64 0] rfl (by kernel_rfl) (by kernel_rfl) (by kernel_rfl)
      (OpenSpec.preRow_of_cond 8 hx (by kernel_rfl) (fun k hk => by cases hk) (by kernel_rfl) (numZeros_laid os))) ?_
  · intro ds hl
    match ds, hl with
    | [_], _ => rfl
  · intro W base args ds p hval hA hlt ht hL
    rw [Tryd.params13] at hA hval
    obtain ⟨v0, vs0, d0, ds0, p0, q0, hargs, rfl, rfl, h0, r0⟩ := trodAll_cons hA
    obtain ⟨rfl, rfl, rfl⟩ := trodAll_nil r0
    obtain rfl : args = #[v0] := by cases args; simp_all
    obtain ⟨z0, rfl, rfl, rfl, wz0⟩ := open_int Tryd.underlying22 (hval 0 22 v0 rfl rfl) h0
    have hz0 := range_u64 wz0
    obtain ⟨u0, rfl⟩ := Int.eq_ofNat_of_zero_le hz0.1
    exact (numZeros_any u0 (by omega) W ht).mono (fun e w' h => ⟨h.1, h.2.below⟩)

theorem numZeros_said : Rows.NumZerosSaid :=
  OpenClaim.holds_of_cond 13 Tryd.f13 rfl rfl rfl rfl rfl rfl rfl ⟨rfl, rfl, rfl, rfl, rfl⟩ rfl rfl rfl rfl rfl (by kernel_rfl) Tryd.func13 (by kernel_rfl)
    (of_decide_eq_true (by kernel_rfl)) (by unfold Func.isWrapper; first | (rw [if_pos (by decide +kernel)]; kernel_rfl) | (rw [if_neg (by decide +kernel)]; exact ⟨rfl, rfl⟩))
    (fun os started H enc _ Fi => by rw [OpenClaim.pre_eq_preRow]; exact numZeros_lifted os started H enc Fi)

theorem numZeros_plain (f : FuncId) (fn : Func) (hf : Tryd.pinned.checked.prog.funcNamed "exitwave/exitwavelaw1.NumZeros" = some f) (hfn : Tryd.pinned.checked.prog.funcs[f]? = some fn) :
    false = Tryd.pinned.checked.prog.looks [] ∧ ∀ (j : Nat) t, fn.params[j]? = some t → Tryd.pinned.checked.prog.wantsStandIn t = false := by
  obtain rfl : f = 13 := Option.some.inj ((show Tryd.prog.funcNamed "exitwave/exitwavelaw1.NumZeros" = some 13 by kernel_rfl).symm.trans hf) |>.symm
  obtain rfl : fn = Tryd.f13 := (Option.some.inj (Tryd.func13.symm.trans hfn)).symm
  refine ⟨by kernel_rfl, fun j t ht => ?_⟩
  rw [Tryd.params13] at ht
  have hm := Array.mem_of_getElem? ht
  have hall : ∀ t ∈ (#[22] : Array TypeId), Tryd.prog.wantsStandIn t = false := by decide +kernel
  exact hall t hm

theorem numZeros_holds : Rows.NumZerosCardSaid :=
  Claim7.holds_tied_plain_at .later [] _ _ _ _ numZeros_said (fun _ h => by cases h) (by kernel_rfl) (fun _ h => by cases h) numZeros_row_tie rfl ⟨rfl, rfl⟩ (by kernel_rfl) rfl numZeros_plain (by kernel_rfl)

end Go.Proofs.YtlpifchimnnfdaaDoor
