/- NumWholes: trunc lies between floor and ceil, which are at most one apart, on both sides of the float; round is one of them; floor of the negative is the negative of ceil. -/
import Derived.Test.YtlpifchimnnfdaaDoorNmArg
import Derived.Test.YtlpifchimnnfdaaDoorNmWhsWalk
namespace Go.Proofs.YtlpifchimnnfdaaDoor
open Go.ChangeShapes Go.WideShapes Go.ChangeAt Go.RowKit

theorem numWholes_laid (os : Os) : laidMet Tryd.prog Rows.numWholesRow.laid ((laidWorld os).forCall (fun _ _ => 0) ⟨#[], #[.int .u64 0], []⟩).memory :=
  laidMet_of_run' 8 (by kernel_rfl) (by kernel_rfl)

theorem numWholes_reads (os : Os) {H : Type} (enc : TypeId × Value → H) : ∃ places, DataW.whole enc Tryd.prog ((laidWorld os).forCall (fun _ _ => 0) ⟨#[], #[.int .u64 0], []⟩).memory Tryd.f15.params.toList Rows.numWholesSpec.vars false #[Value.int .u64 0].toList 8 =
    some ([.lit (.int .u64 0)], [], places) :=
  ⟨[], by kernel_rfl⟩

set_option maxRecDepth 100000 in
theorem numWholes_lifted (os : Os) (started : os.Started) (H : Type) (enc : TypeId × Value → H) (Fi : Stop.Interp) :
    ReturnsInHanded {} Tryd.checked os 15 .any ((OpenSpec.ofChange Rows.numWholesSpec).preRow enc Tryd.prog Tryd.f15 Rows.numWholesRow.domain false Rows.numWholesRow.laid) (((OpenSpec.ofChange Rows.numWholesSpec).at Fi).post enc Tryd.prog Tryd.f15 false true false false) := by
  obtain ⟨places, hx⟩ := numWholes_reads os enc
  refine lift_row started 15 Tryd.f15 Rows.numWholesSpec Fi (by kernel_rfl) Tryd.func15 rfl rfl (by decide +kernel) ?_
    (witness_row_at (enc := enc) (C := Tryd.checked) false (laidWorld os) #[.int .u64 0] rfl (by kernel_rfl) (by kernel_rfl) (by kernel_rfl)
      (OpenSpec.preRow_of_cond 8 hx (by kernel_rfl) (fun k hk => by cases hk) (by kernel_rfl) (numWholes_laid os))) ?_
  · intro ds hl
    match ds, hl with
    | [_], _ => rfl
  · intro W base args ds p hval hA hlt ht hL
    rw [Tryd.params15] at hA hval
    obtain ⟨v0, vs0, d0, ds0, p0, q0, hargs, rfl, rfl, h0, r0⟩ := trodAll_cons hA
    obtain ⟨rfl, rfl, rfl⟩ := trodAll_nil r0
    obtain rfl : args = #[v0] := by cases args; simp_all
    obtain ⟨z0, rfl, rfl, rfl, wz0⟩ := open_int Tryd.underlying22 (hval 0 22 v0 rfl rfl) h0
    have hz0 := range_u64 wz0
    obtain ⟨u0, rfl⟩ := Int.eq_ofNat_of_zero_le hz0.1
    exact (numWhs_any u0 (by omega) W ht).mono (fun e w' h => ⟨h.1, h.2.below⟩)

theorem numWholes_said : Rows.NumWholesSaid :=
  OpenClaim.holds_of_cond 15 Tryd.f15 rfl rfl rfl rfl rfl rfl rfl ⟨rfl, rfl, rfl, rfl, rfl⟩ rfl rfl rfl rfl rfl (by kernel_rfl) Tryd.func15 (by kernel_rfl)
    (of_decide_eq_true (by kernel_rfl)) (by unfold Func.isWrapper; first | (rw [if_pos (by decide +kernel)]; kernel_rfl) | (rw [if_neg (by decide +kernel)]; exact ⟨rfl, rfl⟩))
    (fun os started H enc _ Fi => by rw [OpenClaim.pre_eq_preRow]; exact numWholes_lifted os started H enc Fi)

theorem numWholes_plain (f : FuncId) (fn : Func) (hf : Tryd.pinned.checked.prog.funcNamed "exitwave/exitwavelaw1.NumWholes" = some f) (hfn : Tryd.pinned.checked.prog.funcs[f]? = some fn) :
    false = Tryd.pinned.checked.prog.looks [] ∧ ∀ (j : Nat) t, fn.params[j]? = some t → Tryd.pinned.checked.prog.wantsStandIn t = false := by
  obtain rfl : f = 15 := Option.some.inj ((show Tryd.prog.funcNamed "exitwave/exitwavelaw1.NumWholes" = some 15 by kernel_rfl).symm.trans hf) |>.symm
  obtain rfl : fn = Tryd.f15 := (Option.some.inj (Tryd.func15.symm.trans hfn)).symm
  refine ⟨by kernel_rfl, fun j t ht => ?_⟩
  rw [Tryd.params15] at ht
  have hm := Array.mem_of_getElem? ht
  have hall : ∀ t ∈ (#[22] : Array TypeId), Tryd.prog.wantsStandIn t = false := by decide +kernel
  exact hall t hm

theorem numWholes_holds : Rows.NumWholesCardSaid :=
  Claim7.holds_tied_plain_at .later [] _ _ _ _ numWholes_said (fun _ h => by cases h) (by kernel_rfl) (fun _ h => by cases h) numWholes_row_tie rfl ⟨rfl, rfl⟩ (by kernel_rfl) rfl numWholes_plain (by kernel_rfl)

end Go.Proofs.YtlpifchimnnfdaaDoor
