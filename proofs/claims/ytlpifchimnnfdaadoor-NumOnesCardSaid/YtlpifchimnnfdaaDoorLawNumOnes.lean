/- NumOnes: negatives, sizes, floats made whole, whole numbers made floats: any term, any way: what the document says. -/
import Derived.Test.YtlpifchimnnfdaaDoorNmArg
import Derived.Test.YtlpifchimnnfdaaDoorNmOnesWalk
namespace Go.Proofs.YtlpifchimnnfdaaDoor
open Go.ChangeShapes Go.WideShapes Go.ChangeAt Go.RowKit

def zTerm : Value := .agg #[.int .i64 0, .int .i64 0, .float .f64 0, .string ⟨#[]⟩, .slice none 0 0]

theorem numOnes_laid (os : Os) : laidMet Tryd.prog Rows.numOnesRow.laid ((laidWorld os).forCall (fun _ _ => 0) ⟨#[], #[zTerm, .string ⟨#[]⟩], []⟩).memory :=
  laidMet_of_run' 8 (by kernel_rfl) (by kernel_rfl)

theorem numOnes_reads (os : Os) {H : Type} (enc : TypeId × Value → H) : ∃ places, DataW.whole enc Tryd.prog ((laidWorld os).forCall (fun _ _ => 0) ⟨#[], #[zTerm, .string ⟨#[]⟩], []⟩).memory Tryd.f14.params.toList Rows.numOnesSpec.vars false #[zTerm, .string ⟨#[]⟩].toList 8 =
    some ([.agg [.lit (.int .i64 0), .lit (.int .i64 0), .lit (.float .f64 0), .lit (.string []), .nil], .lit (.string [])], [], places) :=
  ⟨[], by kernel_rfl⟩

set_option maxRecDepth 100000 in
theorem numOnes_lifted (os : Os) (started : os.Started) (H : Type) (enc : TypeId × Value → H) (Fi : Stop.Interp) :
    ReturnsInHanded {} Tryd.checked os 14 .any ((OpenSpec.ofChange Rows.numOnesSpec).preRow enc Tryd.prog Tryd.f14 Rows.numOnesRow.domain false Rows.numOnesRow.laid) (((OpenSpec.ofChange Rows.numOnesSpec).at Fi).post enc Tryd.prog Tryd.f14 false true false false) := by
  obtain ⟨places, hx⟩ := numOnes_reads os enc
  refine lift_row started 14 Tryd.f14 Rows.numOnesSpec Fi (by kernel_rfl) Tryd.func14 rfl rfl (by decide +kernel) ?_
    (witness_row_at (enc := enc) (C := Tryd.checked) false (laidWorld os) #[zTerm, .string ⟨#[]⟩] rfl (by kernel_rfl) (by kernel_rfl) (by kernel_rfl)
      (OpenSpec.preRow_of_cond 8 hx (by kernel_rfl) (fun k hk => by cases hk) (by kernel_rfl) (numOnes_laid os))) ?_
  · intro ds hl
    match ds, hl with
    | [_, _], _ => rfl
  · intro W base args ds p hval hA hlt ht hL
    rw [Tryd.params14] at hA hval
    obtain ⟨v0, vs0, d0, ds0, p0, q0, hargs, rfl, rfl, h0, r0⟩ := trodAll_cons hA
    obtain ⟨v1, vs1, d1, ds1, p1, q1, rfl, rfl, rfl, h1, r1⟩ := trodAll_cons r0
    obtain ⟨rfl, rfl, rfl⟩ := trodAll_nil r1
    obtain rfl : args = #[v0, v1] := by cases args; simp_all
    obtain ⟨k0, n0, f0, s0, so0, m0, cap0, rfl, hf0, hk0, hn0⟩ := arg_term (hval 0 27 v0 rfl rfl) h0
    obtain ⟨sg1, rfl⟩ := okWide_string Tryd.underlying9 (hval 1 9 v1 rfl rfl)
    exact (numOnes_any k0 n0 f0 s0 so0 m0 cap0 sg1 hf0 hk0 hn0 W ht).mono (fun e w' h => ⟨h.1, h.2.below⟩)

theorem numOnes_said : Rows.NumOnesSaid :=
  OpenClaim.holds_of_cond 14 Tryd.f14 rfl rfl rfl rfl rfl rfl rfl ⟨rfl, rfl, rfl, rfl, rfl⟩ rfl rfl rfl rfl rfl (by kernel_rfl) Tryd.func14 (by kernel_rfl)
    (of_decide_eq_true (by kernel_rfl)) (by unfold Func.isWrapper; first | (rw [if_pos (by decide +kernel)]; kernel_rfl) | (rw [if_neg (by decide +kernel)]; exact ⟨rfl, rfl⟩))
    (fun os started H enc _ Fi => by rw [OpenClaim.pre_eq_preRow]; exact numOnes_lifted os started H enc Fi)

theorem numOnes_plain (f : FuncId) (fn : Func) (hf : Tryd.pinned.checked.prog.funcNamed "exitwave/exitwavelaw1.NumOnes" = some f) (hfn : Tryd.pinned.checked.prog.funcs[f]? = some fn) :
    false = Tryd.pinned.checked.prog.looks [] ∧ ∀ (j : Nat) t, fn.params[j]? = some t → Tryd.pinned.checked.prog.wantsStandIn t = false := by
  obtain rfl : f = 14 := Option.some.inj ((show Tryd.prog.funcNamed "exitwave/exitwavelaw1.NumOnes" = some 14 by kernel_rfl).symm.trans hf) |>.symm
  obtain rfl : fn = Tryd.f14 := (Option.some.inj (Tryd.func14.symm.trans hfn)).symm
  refine ⟨by kernel_rfl, fun j t ht => ?_⟩
  rw [Tryd.params14] at ht
  have hm := Array.mem_of_getElem? ht
  have hall : ∀ t ∈ (#[27, 9] : Array TypeId), Tryd.prog.wantsStandIn t = false := by decide +kernel
  exact hall t hm

theorem numOnes_holds : Rows.NumOnesCardSaid :=
  Claim7.holds_tied_plain_at .later [] _ _ _ _ numOnes_said (fun _ h => by cases h) (by kernel_rfl) (fun _ h => by cases h) numOnes_row_tie rfl ⟨rfl, rfl⟩ (by kernel_rfl) rfl numOnes_plain (by kernel_rfl)

end Go.Proofs.YtlpifchimnnfdaaDoor
