/- NumNear: no float is nearer to a whole number than the one that is told: its two neighbours are not. -/
import Derived.Test.YtlpifchimnnfdaaDoorNmArg
import Derived.Test.YtlpifchimnnfdaaDoorNmNrWalk
namespace Go.Proofs.YtlpifchimnnfdaaDoor
open Go.ChangeShapes Go.WideShapes Go.ChangeAt Go.RowKit

theorem numNear_laid (os : Os) : laidMet Tryd.prog Rows.numNearRow.laid ((laidWorld os).forCall (fun _ _ => 0) ⟨#[], #[.int .i64 0], []⟩).memory :=
  laidMet_of_run' 8 (by kernel_rfl) (by kernel_rfl)

theorem numNear_reads (os : Os) {H : Type} (enc : TypeId × Value → H) : ∃ places, DataW.whole enc Tryd.prog ((laidWorld os).forCall (fun _ _ => 0) ⟨#[], #[.int .i64 0], []⟩).memory Tryd.f9.params.toList Rows.numNearSpec.vars false #[Value.int .i64 0].toList 8 =
    some ([.lit (.int .i64 0)], [], places) :=
  ⟨[], by kernel_rfl⟩

set_option maxRecDepth 100000 in
theorem numNear_lifted (os : Os) (started : os.Started) (H : Type) (enc : TypeId × Value → H) (Fi : Stop.Interp) :
    ReturnsInHanded {} Tryd.checked os 9 .any ((OpenSpec.ofChange Rows.numNearSpec).preRow enc Tryd.prog Tryd.f9 Rows.numNearRow.domain false Rows.numNearRow.laid) (((OpenSpec.ofChange Rows.numNearSpec).at Fi).post enc Tryd.prog Tryd.f9 false true false false) := by
  obtain ⟨places, hx⟩ := numNear_reads os enc
  refine lift_row started 9 Tryd.f9 Rows.numNearSpec Fi (by kernel_rfl) Tryd.func9 rfl rfl (by decide +kernel) ?_
    (witness_row_at (enc := enc) (C := Tryd.checked) false (laidWorld os) #[.int .i64 0] rfl (by kernel_rfl) (by kernel_rfl) (by kernel_rfl)
      (OpenSpec.preRow_of_cond 8 hx (by kernel_rfl) (fun k hk => by cases hk) (by kernel_rfl) (numNear_laid os))) ?_
  · intro ds hl
    match ds, hl with
    | [_], _ => rfl
  · intro W base args ds p hval hA hlt ht hL
    rw [Tryd.params9] at hA hval
    obtain ⟨v0, vs0, d0, ds0, p0, q0, hargs, rfl, rfl, h0, r0⟩ := trodAll_cons hA
    obtain ⟨rfl, rfl, rfl⟩ := trodAll_nil r0
    obtain rfl : args = #[v0] := by cases args; simp_all
    obtain ⟨n0, rfl, rfl, rfl, wn0⟩ := open_int Tryd.underlying2 (hval 0 2 v0 rfl rfl) h0
    exact (numNear_any n0 (range_i64 wn0) W ht).mono (fun e w' h => ⟨h.1, h.2.below⟩)

theorem numNear_said : Rows.NumNearSaid :=
  OpenClaim.holds_of_cond 9 Tryd.f9 rfl rfl rfl rfl rfl rfl rfl ⟨rfl, rfl, rfl, rfl, rfl⟩ rfl rfl rfl rfl rfl (by kernel_rfl) Tryd.func9 (by kernel_rfl)
    (of_decide_eq_true (by kernel_rfl)) (by unfold Func.isWrapper; first | (rw [if_pos (by decide +kernel)]; kernel_rfl) | (rw [if_neg (by decide +kernel)]; exact ⟨rfl, rfl⟩))
    (fun os started H enc _ Fi => by rw [OpenClaim.pre_eq_preRow]; exact numNear_lifted os started H enc Fi)

theorem numNear_plain (f : FuncId) (fn : Func) (hf : Tryd.pinned.checked.prog.funcNamed "exitwave/exitwavelaw1.NumNear" = some f) (hfn : Tryd.pinned.checked.prog.funcs[f]? = some fn) :
    false = Tryd.pinned.checked.prog.looks [] ∧ ∀ (j : Nat) t, fn.params[j]? = some t → Tryd.pinned.checked.prog.wantsStandIn t = false := by
  obtain rfl : f = 9 := Option.some.inj ((show Tryd.prog.funcNamed "exitwave/exitwavelaw1.NumNear" = some 9 by kernel_rfl).symm.trans hf) |>.symm
  obtain rfl : fn = Tryd.f9 := (Option.some.inj (Tryd.func9.symm.trans hfn)).symm
  refine ⟨by kernel_rfl, fun j t ht => ?_⟩
  rw [Tryd.params9] at ht
  have hm := Array.mem_of_getElem? ht
  have hall : ∀ t ∈ (#[2] : Array TypeId), Tryd.prog.wantsStandIn t = false := by decide +kernel
  exact hall t hm

theorem numNear_holds : Rows.NumNearCardSaid :=
  Claim7.holds_tied_plain_at .later [] _ _ _ _ numNear_said (fun _ h => by cases h) (by kernel_rfl) (fun _ h => by cases h) numNear_row_tie rfl ⟨rfl, rfl⟩ (by kernel_rfl) rfl numNear_plain (by kernel_rfl)

end Go.Proofs.YtlpifchimnnfdaaDoor
