/- NumOne: times one, by one, less nothing a right number stays as it is (a whole one divided becomes a float); a negative's negative is the number. -/
import Derived.Test.YtlpifchimnnfdaaDoorNmArg
import Derived.Test.YtlpifchimnnfdaaDoorNmOneWalk
namespace Go.Proofs.YtlpifchimnnfdaaDoor
open Go.ChangeShapes Go.WideShapes Go.ChangeAt Go.RowKit

def zTerm : Value := .agg #[.int .i64 0, .int .i64 0, .float .f64 0, .string ⟨#[]⟩, .slice none 0 0]

theorem numOne_laid (os : Os) : laidMet Tryd.prog Rows.numOneRow.laid ((laidWorld os).forCall (fun _ _ => 0) ⟨#[], #[zTerm], []⟩).memory :=
  laidMet_of_run' 8 (by kernel_rfl) (by kernel_rfl)

theorem numOne_reads (os : Os) {H : Type} (enc : TypeId × Value → H) : ∃ places, DataW.whole enc Tryd.prog ((laidWorld os).forCall (fun _ _ => 0) ⟨#[], #[zTerm], []⟩).memory Tryd.f8.params.toList Rows.numOneSpec.vars false #[zTerm].toList 8 =
    some ([.agg [.lit (.int .i64 0), .lit (.int .i64 0), .lit (.float .f64 0), .lit (.string []), .nil]], [], places) :=
  ⟨[], by kernel_rfl⟩

set_option maxRecDepth 100000 in
theorem numOne_lifted (os : Os) (started : os.Started) (H : Type) (enc : TypeId × Value → H) (Fi : Stop.Interp) :
    ReturnsInHanded {} Tryd.checked os 8 .any ((OpenSpec.ofChange Rows.numOneSpec).preRow enc Tryd.prog Tryd.f8 Rows.numOneRow.domain false Rows.numOneRow.laid) (((OpenSpec.ofChange Rows.numOneSpec).at Fi).post enc Tryd.prog Tryd.f8 false true false false) := by
  obtain ⟨places, hx⟩ := numOne_reads os enc
  refine lift_row started 8 Tryd.f8 Rows.numOneSpec Fi (by kernel_rfl) Tryd.func8 rfl rfl (by decide +kernel) ?_
    (witness_row_at (enc := enc) (C := Tryd.checked) false (laidWorld os) #[zTerm] rfl (by kernel_rfl) (by kernel_rfl) (by kernel_rfl)
      (OpenSpec.preRow_of_cond 8 hx (by kernel_rfl) (fun k hk => by cases hk) (by kernel_rfl) (numOne_laid os))) ?_
  · intro ds hl
    match ds, hl with
    | [_], _ => rfl
  · intro W base args ds p hval hA hlt ht hL
    rw [Tryd.params8] at hA hval
    obtain ⟨v0, vs0, d0, ds0, p0, q0, hargs, rfl, rfl, h0, r0⟩ := trodAll_cons hA
    obtain ⟨rfl, rfl, rfl⟩ := trodAll_nil r0
    obtain rfl : args = #[v0] := by cases args; simp_all
    obtain ⟨k0, n0, f0, s0, so0, m0, cap0, rfl, hf0, hk0, hn0⟩ := arg_term (hval 0 27 v0 rfl rfl) h0
    exact (numOne_any k0 n0 f0 s0 so0 m0 cap0 hf0 hk0 hn0 W ht).mono (fun e w' h => ⟨h.1, h.2.below⟩)

theorem numOne_said : Rows.NumOneSaid :=
  OpenClaim.holds_of_cond 8 Tryd.f8 rfl rfl rfl rfl rfl rfl rfl ⟨rfl, rfl, rfl, rfl, rfl⟩ rfl rfl rfl rfl rfl (by kernel_rfl) Tryd.func8 (by kernel_rfl)
    (of_decide_eq_true (by kernel_rfl)) (by unfold Func.isWrapper; first | (rw [if_pos (by decide +kernel)]; kernel_rfl) | (rw [if_neg (by decide +kernel)]; exact ⟨rfl, rfl⟩))
    (fun os started H enc _ Fi => by rw [OpenClaim.pre_eq_preRow]; exact numOne_lifted os started H enc Fi)

theorem numOne_plain (f : FuncId) (fn : Func) (hf : Tryd.pinned.checked.prog.funcNamed "exitwave/exitwavelaw1.NumOne" = some f) (hfn : Tryd.pinned.checked.prog.funcs[f]? = some fn) :
    false = Tryd.pinned.checked.prog.looks [] ∧ ∀ (j : Nat) t, fn.params[j]? = some t → Tryd.pinned.checked.prog.wantsStandIn t = false := by
  obtain rfl : f = 8 := Option.some.inj ((show Tryd.prog.funcNamed "exitwave/exitwavelaw1.NumOne" = some 8 by kernel_rfl).symm.trans hf) |>.symm
  obtain rfl : fn = Tryd.f8 := (Option.some.inj (Tryd.func8.symm.trans hfn)).symm
  refine ⟨by kernel_rfl, fun j t ht => ?_⟩
  rw [Tryd.params8] at ht
  have hm := Array.mem_of_getElem? ht
  have hall : ∀ t ∈ (#[27] : Array TypeId), Tryd.prog.wantsStandIn t = false := by decide +kernel
  exact hall t hm

theorem numOne_holds : Rows.NumOneCardSaid :=
  Claim7.holds_tied_plain_at .later [] _ _ _ _ numOne_said (fun _ h => by cases h) (by kernel_rfl) (fun _ h => by cases h) numOne_row_tie rfl ⟨rfl, rfl⟩ (by kernel_rfl) rfl numOne_plain (by kernel_rfl)

end Go.Proofs.YtlpifchimnnfdaaDoor
