/- NumMakes: every whole number and every float is made as the document makes it. -/
import Derived.Test.YtlpifchimnnfdaaDoorNmRow
import Derived.Test.YtlpifchimnnfdaaDoorNmMakesWalk
namespace Go.Proofs.YtlpifchimnnfdaaDoor
open Go.ChangeShapes Go.WideShapes Go.ChangeAt Go.RowKit

theorem numMakes_laid (os : Os) : laidMet Tryd.prog Rows.numMakesRow.laid ((laidWorld os).forCall (fun _ _ => 0) ⟨#[], #[.int .i64 0, .int .u64 0], []⟩).memory :=
  laidMet_of_run' 8 (by kernel_rfl) (by kernel_rfl)

theorem numMakes_reads (os : Os) {H : Type} (enc : TypeId × Value → H) : ∃ places, DataW.whole enc Tryd.prog ((laidWorld os).forCall (fun _ _ => 0) ⟨#[], #[.int .i64 0, .int .u64 0], []⟩).memory Tryd.f3.params.toList Rows.numMakesSpec.vars false #[Value.int .i64 0, .int .u64 0].toList 8 =
    some ([.lit (.int .i64 0), .lit (.int .u64 0)], [], places) :=
  ⟨[], by kernel_rfl⟩

set_option maxRecDepth 100000 in
theorem numMakes_lifted (os : Os) (started : os.Started) (H : Type) (enc : TypeId × Value → H) (Fi : Stop.Interp) :
    ReturnsInHanded {} Tryd.checked os 3 .any ((OpenSpec.ofChange Rows.numMakesSpec).preRow enc Tryd.prog Tryd.f3 Rows.numMakesRow.domain false Rows.numMakesRow.laid) (((OpenSpec.ofChange Rows.numMakesSpec).at Fi).post enc Tryd.prog Tryd.f3 false true false false) := by
  obtain ⟨places, hx⟩ := numMakes_reads os enc
  refine lift_row started 3 Tryd.f3 Rows.numMakesSpec Fi (by kernel_rfl) Tryd.func3 rfl rfl (by decide +kernel) ?_
    (witness_row_at (enc := enc) (C := Tryd.checked) false (laidWorld os) #[.int .i64 0, .int .u64 0] rfl (by kernel_rfl) (by kernel_rfl) (by kernel_rfl)
      (OpenSpec.preRow_of_cond 8 hx (by kernel_rfl) (fun k hk => by cases hk) (by kernel_rfl) (numMakes_laid os))) ?_
  · intro ds hl
    match ds, hl with
    | [_, _], _ => rfl
  · intro W base args ds p hval hA hlt ht _
    rw [Tryd.params3] at hA hval
    obtain ⟨v0, v1, d0, d1, p0, p1, rfl, rfl, rfl, h0, h1⟩ := trodAll_two hA
    obtain ⟨n, rfl, rfl, rfl, wn⟩ := open_int Tryd.underlying2 (hval 0 2 v0 rfl rfl) h0
    obtain ⟨z, rfl, rfl, rfl, wz⟩ := open_int Tryd.underlying22 (hval 1 22 v1 rfl rfl) h1
    have hz := range_u64 wz
    obtain ⟨u, rfl⟩ := Int.eq_ofNat_of_zero_le hz.1
    exact (numMakes_any n u (by omega) W ht).mono (fun e w' h => ⟨h.1, h.2.below⟩)

theorem numMakes_said : Rows.NumMakesSaid :=
  OpenClaim.holds_of_cond 3 Tryd.f3 rfl rfl rfl rfl rfl rfl rfl ⟨rfl, rfl, rfl, rfl, rfl⟩ rfl rfl rfl rfl rfl (by kernel_rfl) Tryd.func3 (by kernel_rfl)
    (of_decide_eq_true (by kernel_rfl)) (by unfold Func.isWrapper; first | (rw [if_pos (by decide +kernel)]; kernel_rfl) | (rw [if_neg (by decide +kernel)]; exact ⟨rfl, rfl⟩))
    (fun os started H enc _ Fi => by rw [OpenClaim.pre_eq_preRow]; exact numMakes_lifted os started H enc Fi)

theorem numMakes_plain (f : FuncId) (fn : Func) (hf : Tryd.pinned.checked.prog.funcNamed "exitwave/exitwavelaw1.NumMakes" = some f) (hfn : Tryd.pinned.checked.prog.funcs[f]? = some fn) :
    false = Tryd.pinned.checked.prog.looks [] ∧ ∀ (j : Nat) t, fn.params[j]? = some t → Tryd.pinned.checked.prog.wantsStandIn t = false := by
  obtain rfl : f = 3 := Option.some.inj ((show Tryd.prog.funcNamed "exitwave/exitwavelaw1.NumMakes" = some 3 by kernel_rfl).symm.trans hf) |>.symm
  obtain rfl : fn = Tryd.f3 := (Option.some.inj (Tryd.func3.symm.trans hfn)).symm
  refine ⟨by kernel_rfl, fun j t ht => ?_⟩
  rw [Tryd.params3] at ht
  have hm := Array.mem_of_getElem? ht
  have hall : ∀ t ∈ (#[2, 22] : Array TypeId), Tryd.prog.wantsStandIn t = false := by decide +kernel
  exact hall t hm

theorem numMakes_holds : Rows.NumMakesCardSaid :=
  Claim7.holds_tied_plain_at .later [] _ _ _ _ numMakes_said (fun _ h => by cases h) (by kernel_rfl) (fun _ h => by cases h) numMakes_row_tie rfl ⟨rfl, rfl⟩ (by kernel_rfl) rfl numMakes_plain (by kernel_rfl)

end Go.Proofs.YtlpifchimnnfdaaDoor
