/- NumOps: what num.Op tells is what the document's tells, at every sign and every two terms. -/
import Derived.Test.YtlpifchimnnfdaaDoorNmArg
import Derived.Test.YtlpifchimnnfdaaDoorNmOpsWalk
namespace Go.Proofs.YtlpifchimnnfdaaDoor
open Go.ChangeShapes Go.WideShapes Go.ChangeAt Go.RowKit

def zTerm : Value := .agg #[.int .i64 0, .int .i64 0, .float .f64 0, .string ⟨#[]⟩, .slice none 0 0]

theorem numOps_laid (os : Os) : laidMet Tryd.prog Rows.numOpsRow.laid ((laidWorld os).forCall (fun _ _ => 0) ⟨#[], #[.string ⟨#[]⟩, zTerm, zTerm], []⟩).memory :=
  laidMet_of_run' 8 (by kernel_rfl) (by kernel_rfl)

theorem numOps_reads (os : Os) {H : Type} (enc : TypeId × Value → H) : ∃ places, DataW.whole enc Tryd.prog ((laidWorld os).forCall (fun _ _ => 0) ⟨#[], #[.string ⟨#[]⟩, zTerm, zTerm], []⟩).memory Tryd.f4.params.toList Rows.numOpsSpec.vars false #[Value.string ⟨#[]⟩, zTerm, zTerm].toList 8 =
    some ([.lit (.string []), .agg [.lit (.int .i64 0), .lit (.int .i64 0), .lit (.float .f64 0), .lit (.string []), .nil], .agg [.lit (.int .i64 0), .lit (.int .i64 0), .lit (.float .f64 0), .lit (.string []), .nil]], [], places) :=
  ⟨[], by kernel_rfl⟩

set_option maxRecDepth 100000 in
theorem numOps_lifted (os : Os) (started : os.Started) (H : Type) (enc : TypeId × Value → H) (Fi : Stop.Interp) :
    ReturnsInHanded {} Tryd.checked os 4 .any ((OpenSpec.ofChange Rows.numOpsSpec).preRow enc Tryd.prog Tryd.f4 Rows.numOpsRow.domain false Rows.numOpsRow.laid) (((OpenSpec.ofChange Rows.numOpsSpec).at Fi).post enc Tryd.prog Tryd.f4 false true false false) := by
  obtain ⟨places, hx⟩ := numOps_reads os enc
  refine lift_row started 4 Tryd.f4 Rows.numOpsSpec Fi (by kernel_rfl) Tryd.func4 rfl rfl (by decide +kernel) ?_
    (witness_row_at (enc := enc) (C := Tryd.checked) false (laidWorld os) #[.string ⟨#[]⟩, zTerm, zTerm] rfl (by kernel_rfl) (by kernel_rfl) (by kernel_rfl)
      (OpenSpec.preRow_of_cond 8 hx (by kernel_rfl) (fun k hk => by cases hk) (by kernel_rfl) (numOps_laid os))) ?_
  · intro ds hl
    match ds, hl with
    | [_, _, _], _ => rfl
  · intro W base args ds p hval hA hlt ht _
    rw [Tryd.params4] at hA hval
    obtain ⟨v0, vs0, d0, ds0, p0, q0, hargs, rfl, rfl, h0, r0⟩ := trodAll_cons hA
    obtain ⟨v1, v2, d1, d2, p1, p2, hvs, rfl, rfl, h1, h2⟩ := trodAll_two (args := vs0.toArray) r0
    have hvs' : vs0 = [v1, v2] := by simpa using congrArg Array.toList hvs
    subst hvs'
    obtain rfl : args = #[v0, v1, v2] := by cases args; simp_all
    obtain ⟨sg, rfl⟩ := okWide_string Tryd.underlying9 (hval 0 9 v0 rfl rfl)
    obtain ⟨k, n, f, s, so, m, cap, rfl, hf, _, _⟩ := arg_term (hval 1 27 v1 rfl rfl) h1
    obtain ⟨k', n', f', s', so', m', cap', rfl, hf', _, _⟩ := arg_term (hval 2 27 v2 rfl rfl) h2
    exact (numOps_any sg k n f s so m cap k' n' f' s' so' m' cap' hf hf' W ht).mono (fun e w' h => ⟨h.1, h.2.below⟩)

theorem numOps_said : Rows.NumOpsSaid :=
  OpenClaim.holds_of_cond 4 Tryd.f4 rfl rfl rfl rfl rfl rfl rfl ⟨rfl, rfl, rfl, rfl, rfl⟩ rfl rfl rfl rfl rfl (by kernel_rfl) Tryd.func4 (by kernel_rfl)
    (of_decide_eq_true (by kernel_rfl)) (by unfold Func.isWrapper; first | (rw [if_pos (by decide +kernel)]; kernel_rfl) | (rw [if_neg (by decide +kernel)]; exact ⟨rfl, rfl⟩))
    (fun os started H enc _ Fi => by rw [OpenClaim.pre_eq_preRow]; exact numOps_lifted os started H enc Fi)

theorem numOps_plain (f : FuncId) (fn : Func) (hf : Tryd.pinned.checked.prog.funcNamed "exitwave/exitwavelaw1.NumOps" = some f) (hfn : Tryd.pinned.checked.prog.funcs[f]? = some fn) :
    false = Tryd.pinned.checked.prog.looks [] ∧ ∀ (j : Nat) t, fn.params[j]? = some t → Tryd.pinned.checked.prog.wantsStandIn t = false := by
  obtain rfl : f = 4 := Option.some.inj ((show Tryd.prog.funcNamed "exitwave/exitwavelaw1.NumOps" = some 4 by kernel_rfl).symm.trans hf) |>.symm
  obtain rfl : fn = Tryd.f4 := (Option.some.inj (Tryd.func4.symm.trans hfn)).symm
  refine ⟨by kernel_rfl, fun j t ht => ?_⟩
  rw [Tryd.params4] at ht
  have hm := Array.mem_of_getElem? ht
  have hall : ∀ t ∈ (#[9, 27, 27] : Array TypeId), Tryd.prog.wantsStandIn t = false := by decide +kernel
  exact hall t hm

theorem numOps_holds : Rows.NumOpsCardSaid :=
  Claim7.holds_tied_plain_at .later [] _ _ _ _ numOps_said (fun _ h => by cases h) (by kernel_rfl) (fun _ h => by cases h) numOps_row_tie rfl ⟨rfl, rfl⟩ (by kernel_rfl) rfl numOps_plain (by kernel_rfl)

end Go.Proofs.YtlpifchimnnfdaaDoor
