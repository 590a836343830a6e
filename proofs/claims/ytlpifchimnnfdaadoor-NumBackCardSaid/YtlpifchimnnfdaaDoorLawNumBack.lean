/- NumBack: a float's text says its bits; a whole number of at most 2^53 in size is its Real, and that made whole again. -/
import Derived.Test.YtlpifchimnnfdaaDoorNmArg
import Derived.Test.YtlpifchimnnfdaaDoorNmBackWalk
namespace Go.Proofs.YtlpifchimnnfdaaDoor
open Go.ChangeShapes Go.WideShapes Go.ChangeAt Go.RowKit

theorem numBack_laid (os : Os) : laidMet Tryd.prog Rows.numBackRow.laid ((laidWorld os).forCall (fun _ _ => 0) ⟨#[], #[.int .u64 0, .int .i64 0], []⟩).memory :=
  laidMet_of_run' 8 (by kernel_rfl) (by kernel_rfl)

theorem numBack_reads (os : Os) {H : Type} (enc : TypeId × Value → H) : ∃ places, DataW.whole enc Tryd.prog ((laidWorld os).forCall (fun _ _ => 0) ⟨#[], #[.int .u64 0, .int .i64 0], []⟩).memory Tryd.f16.params.toList Rows.numBackSpec.vars false #[Value.int .u64 0, .int .i64 0].toList 8 =
    some ([.lit (.int .u64 0), .lit (.int .i64 0)], [], places) :=
  ⟨[], by kernel_rfl⟩

set_option maxRecDepth 100000 in
theorem numBack_lifted (os : Os) (started : os.Started) (H : Type) (enc : TypeId × Value → H) (Fi : Stop.Interp) :
    ReturnsInHanded {} Tryd.checked os 16 .any ((OpenSpec.ofChange Rows.numBackSpec).preRow enc Tryd.prog Tryd.f16 Rows.numBackRow.domain false Rows.numBackRow.laid) (((OpenSpec.ofChange Rows.numBackSpec).at Fi).post enc Tryd.prog Tryd.f16 false true false false) := by
  obtain ⟨places, hx⟩ := numBack_reads os enc
  refine lift_row started 16 Tryd.f16 Rows.numBackSpec Fi (by kernel_rfl) Tryd.func16 rfl rfl (by decide +kernel) ?_
    (witness_row_at (enc := enc) (C := Tryd.checked) false (laidWorld os) #[.int .u64 0, .int .i64 0] rfl (by kernel_rfl) (by kernel_rfl) (by kernel_rfl)
      (OpenSpec.preRow_of_cond 8 hx (by kernel_rfl) (fun k hk => by cases hk) (by kernel_rfl) (numBack_laid os))) ?_
  · intro ds hl
    match ds, hl with
    | [_, _], _ => rfl
  · intro W base args ds p hval hA hlt ht hL
    rw [Tryd.params16] at hA hval
    obtain ⟨v0, vs0, d0, ds0, p0, q0, hargs, rfl, rfl, h0, r0⟩ := trodAll_cons hA
    obtain ⟨v1, vs1, d1, ds1, p1, q1, rfl, rfl, rfl, h1, r1⟩ := trodAll_cons r0
    obtain ⟨rfl, rfl, rfl⟩ := trodAll_nil r1
    obtain rfl : args = #[v0, v1] := by cases args; simp_all
    obtain ⟨z0, rfl, rfl, rfl, wz0⟩ := open_int Tryd.underlying22 (hval 0 22 v0 rfl rfl) h0
    have hz0 := range_u64 wz0
    obtain ⟨u0, rfl⟩ := Int.eq_ofNat_of_zero_le hz0.1
    obtain ⟨n1, rfl, rfl, rfl, wn1⟩ := open_int Tryd.underlying2 (hval 1 2 v1 rfl rfl) h1
    exact (numBack_any u0 n1 (by omega) (range_i64 wn1) W ht).mono (fun e w' h => ⟨h.1, h.2.below⟩)

theorem numBack_said : Rows.NumBackSaid :=
  OpenClaim.holds_of_cond 16 Tryd.f16 rfl rfl rfl rfl rfl rfl rfl ⟨rfl, rfl, rfl, rfl, rfl⟩ rfl rfl rfl rfl rfl (by kernel_rfl) Tryd.func16 (by kernel_rfl)
    (of_decide_eq_true (by kernel_rfl)) (by unfold Func.isWrapper; first | (rw [if_pos (by decide +kernel)]; kernel_rfl) | (rw [if_neg (by decide +kernel)]; exact ⟨rfl, rfl⟩))
    (fun os started H enc _ Fi => by rw [OpenClaim.pre_eq_preRow]; exact numBack_lifted os started H enc Fi)

theorem numBack_plain (f : FuncId) (fn : Func) (hf : Tryd.pinned.checked.prog.funcNamed "exitwave/exitwavelaw1.NumBack" = some f) (hfn : Tryd.pinned.checked.prog.funcs[f]? = some fn) :
    false = Tryd.pinned.checked.prog.looks [] ∧ ∀ (j : Nat) t, fn.params[j]? = some t → Tryd.pinned.checked.prog.wantsStandIn t = false := by
  obtain rfl : f = 16 := Option.some.inj ((show Tryd.prog.funcNamed "exitwave/exitwavelaw1.NumBack" = some 16 by kernel_rfl).symm.trans hf) |>.symm
  obtain rfl : fn = Tryd.f16 := (Option.some.inj (Tryd.func16.symm.trans hfn)).symm
  refine ⟨by kernel_rfl, fun j t ht => ?_⟩
  rw [Tryd.params16] at ht
  have hm := Array.mem_of_getElem? ht
  have hall : ∀ t ∈ (#[22, 2] : Array TypeId), Tryd.prog.wantsStandIn t = false := by decide +kernel
  exact hall t hm

theorem numBack_holds : Rows.NumBackCardSaid :=
  Claim7.holds_tied_plain_at .later [] _ _ _ _ numBack_said (fun _ h => by cases h) (by kernel_rfl) (fun _ h => by cases h) numBack_row_tie rfl ⟨rfl, rfl⟩ (by kernel_rfl) rfl numBack_plain (by kernel_rfl)

end Go.Proofs.YtlpifchimnnfdaaDoor
