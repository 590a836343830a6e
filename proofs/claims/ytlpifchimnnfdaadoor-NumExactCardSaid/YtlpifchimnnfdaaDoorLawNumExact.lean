/- NumExact: the nearest float, and a float against a whole number, are what the document says. -/
import Derived.Test.YtlpifchimnnfdaaDoorNmArg
import Derived.Test.YtlpifchimnnfdaaDoorNmRExact
namespace Go.Proofs.YtlpifchimnnfdaaDoor
open Go.ChangeShapes Go.WideShapes Go.ChangeAt Go.RowKit

theorem numExact_laid (os : Os) : laidMet Tryd.prog Rows.numExactRow.laid ((laidWorld os).forCall (fun _ _ => 0) ⟨#[], #[.int .i64 0, .int .u64 0], []⟩).memory :=
  laidMet_of_run' 8 (by kernel_rfl) (by kernel_rfl)

theorem numExact_reads (os : Os) {H : Type} (enc : TypeId × Value → H) : ∃ places, DataW.whole enc Tryd.prog ((laidWorld os).forCall (fun _ _ => 0) ⟨#[], #[.int .i64 0, .int .u64 0], []⟩).memory Tryd.f10.params.toList Rows.numExactSpec.vars false #[Value.int .i64 0, .int .u64 0].toList 8 =
    some ([.lit (.int .i64 0), .lit (.int .u64 0)], [], places) :=
  ⟨[], by kernel_rfl⟩

set_option maxRecDepth 100000 in
theorem numExact_lifted (os : Os) (started : os.Started) (H : Type) (enc : TypeId × Value → H) (Fi : Stop.Interp) :
    ReturnsInHanded {} Tryd.checked os 10 .any ((OpenSpec.ofChange Rows.numExactSpec).preRow enc Tryd.prog Tryd.f10 Rows.numExactRow.domain false Rows.numExactRow.laid) (((OpenSpec.ofChange Rows.numExactSpec).at Fi).post enc Tryd.prog Tryd.f10 false true false false) := by
  obtain ⟨places, hx⟩ := numExact_reads os enc
  refine lift_row started 10 Tryd.f10 Rows.numExactSpec Fi (by kernel_rfl) Tryd.func10 rfl rfl (by decide +kernel) ?_
    (witness_row_at (enc := enc) (C := Tryd.checked) false (laidWorld os) #[.int .i64 0, .int .u64 0] rfl (by kernel_rfl) (by kernel_rfl) (by kernel_rfl)
      (OpenSpec.preRow_of_cond 8 hx (by kernel_rfl) (fun k hk => by cases hk) (by kernel_rfl) (numExact_laid os))) ?_
  · intro ds hl
    match ds, hl with
    | [_, _], _ => rfl
  · intro W base args ds p hval hA hlt ht hL
    rw [Tryd.params10] at hA hval
    obtain ⟨v0, vs0, d0, ds0, p0, q0, hargs, rfl, rfl, h0, r0⟩ := trodAll_cons hA
    obtain ⟨v1, vs1, d1, ds1, p1, q1, rfl, rfl, rfl, h1, r1⟩ := trodAll_cons r0
    obtain ⟨rfl, rfl, rfl⟩ := trodAll_nil r1
    obtain rfl : args = #[v0, v1] := by cases args; simp_all
    obtain ⟨n0, rfl, rfl, rfl, wn0⟩ := open_int Tryd.underlying2 (hval 0 2 v0 rfl rfl) h0
    obtain ⟨z1, rfl, rfl, rfl, wz1⟩ := open_int Tryd.underlying22 (hval 1 22 v1 rfl rfl) h1
    have hz1 := range_u64 wz1
    obtain ⟨u1, rfl⟩ := Int.eq_ofNat_of_zero_le hz1.1
    exact (numExact_any n0 u1 (range_i64 wn0) (by omega) W ht).mono (fun e w' h => ⟨h.1, h.2.below⟩)

theorem numExact_said : Rows.NumExactSaid :=
  OpenClaim.holds_of_cond 10 Tryd.f10 rfl rfl rfl rfl rfl rfl rfl ⟨rfl, rfl, rfl, rfl, rfl⟩ rfl rfl rfl rfl rfl (by kernel_rfl) Tryd.func10 (by kernel_rfl)
    (of_decide_eq_true (by kernel_rfl)) (by unfold Func.isWrapper; first | (rw [if_pos (by decide +kernel)]; kernel_rfl) | (rw [if_neg (by decide +kernel)]; exact ⟨rfl, rfl⟩))
    (fun os started H enc _ Fi => by rw [OpenClaim.pre_eq_preRow]; exact numExact_lifted os started H enc Fi)

theorem numExact_plain (f : FuncId) (fn : Func) (hf : Tryd.pinned.checked.prog.funcNamed "exitwave/exitwavelaw1.NumExact" = some f) (hfn : Tryd.pinned.checked.prog.funcs[f]? = some fn) :
    false = Tryd.pinned.checked.prog.looks [] ∧ ∀ (j : Nat) t, fn.params[j]? = some t → Tryd.pinned.checked.prog.wantsStandIn t = false := by
  obtain rfl : f = 10 := Option.some.inj ((show Tryd.prog.funcNamed "exitwave/exitwavelaw1.NumExact" = some 10 by kernel_rfl).symm.trans hf) |>.symm
  obtain rfl : fn = Tryd.f10 := (Option.some.inj (Tryd.func10.symm.trans hfn)).symm
  refine ⟨by kernel_rfl, fun j t ht => ?_⟩
  rw [Tryd.params10] at ht
  have hm := Array.mem_of_getElem? ht
  have hall : ∀ t ∈ (#[2, 22] : Array TypeId), Tryd.prog.wantsStandIn t = false := by decide +kernel
  exact hall t hm

theorem numExact_holds : Rows.NumExactCardSaid :=
  Claim7.holds_tied_plain_at .later [] _ _ _ _ numExact_said (fun _ h => by cases h) (by kernel_rfl) (fun _ h => by cases h) numExact_row_tie rfl ⟨rfl, rfl⟩ (by kernel_rfl) rfl numExact_plain (by kernel_rfl)

end Go.Proofs.YtlpifchimnnfdaaDoor
