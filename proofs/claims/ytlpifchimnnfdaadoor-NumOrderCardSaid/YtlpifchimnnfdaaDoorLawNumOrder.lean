/- NumOrder: whole numbers and floats together have one total order; what is the same is equal; of one kind only the zeros are equal and not the same. -/
import Derived.Test.YtlpifchimnnfdaaDoorNmArg
import Derived.Test.YtlpifchimnnfdaaDoorNmOrdWalk
namespace Go.Proofs.YtlpifchimnnfdaaDoor
open Go.ChangeShapes Go.WideShapes Go.ChangeAt Go.RowKit

def zTerm : Value := .agg #[.int .i64 0, .int .i64 0, .float .f64 0, .string ⟨#[]⟩, .slice none 0 0]

theorem numOrder_laid (os : Os) : laidMet Tryd.prog Rows.numOrderRow.laid ((laidWorld os).forCall (fun _ _ => 0) ⟨#[], #[zTerm, zTerm, zTerm], []⟩).memory :=
  laidMet_of_run' 8 (by kernel_rfl) (by kernel_rfl)

theorem numOrder_reads (os : Os) {H : Type} (enc : TypeId × Value → H) : ∃ places, DataW.whole enc Tryd.prog ((laidWorld os).forCall (fun _ _ => 0) ⟨#[], #[zTerm, zTerm, zTerm], []⟩).memory Tryd.f12.params.toList Rows.numOrderSpec.vars false #[zTerm, zTerm, zTerm].toList 8 =
    some ([.agg [.lit (.int .i64 0), .lit (.int .i64 0), .lit (.float .f64 0), .lit (.string []), .nil], .agg [.lit (.int .i64 0), .lit (.int .i64 0), .lit (.float .f64 0), .lit (.string []), .nil], .agg [.lit (.int .i64 0), .lit (.int .i64 0), .lit (.float .f64 0), .lit (.string []), .nil]], [], places) :=
  ⟨[], by kernel_rfl⟩

set_option maxRecDepth 100000 in
theorem numOrder_lifted (os : Os) (started : os.Started) (H : Type) (enc : TypeId × Value → H) (Fi : Stop.Interp) :
    ReturnsInHanded {} Tryd.checked os 12 .any ((OpenSpec.ofChange Rows.numOrderSpec).preRow enc Tryd.prog Tryd.f12 Rows.numOrderRow.domain false Rows.numOrderRow.laid) (((OpenSpec.ofChange Rows.numOrderSpec).at Fi).post enc Tryd.prog Tryd.f12 false true false false) := by
  obtain ⟨places, hx⟩ := numOrder_reads os enc
  refine lift_row started 12 Tryd.f12 Rows.numOrderSpec Fi (by kernel_rfl) Tryd.func12 rfl rfl (by decide +kernel) ?_
    (witness_row_at (enc := enc) (C := Tryd.checked) false (laidWorld os) #[zTerm, zTerm, zTerm] rfl (by kernel_rfl) (by kernel_rfl) (by kernel_rfl)
      (OpenSpec.preRow_of_cond 8 hx (by kernel_rfl) (fun k hk => by cases hk) (by kernel_rfl) (numOrder_laid os))) ?_
  · intro ds hl
    match ds, hl with
    | [_, _, _], _ => rfl
  · intro W base args ds p hval hA hlt ht hL
    rw [Tryd.params12] at hA hval
    obtain ⟨v0, vs0, d0, ds0, p0, q0, hargs, rfl, rfl, h0, r0⟩ := trodAll_cons hA
    obtain ⟨v1, vs1, d1, ds1, p1, q1, rfl, rfl, rfl, h1, r1⟩ := trodAll_cons r0
    obtain ⟨v2, vs2, d2, ds2, p2, q2, rfl, rfl, rfl, h2, r2⟩ := trodAll_cons r1
    obtain ⟨rfl, rfl, rfl⟩ := trodAll_nil r2
    obtain rfl : args = #[v0, v1, v2] := by cases args; simp_all
    obtain ⟨k0, n0, f0, s0, so0, m0, cap0, rfl, hf0, hk0, hn0⟩ := arg_term (hval 0 27 v0 rfl rfl) h0
    obtain ⟨k1, n1, f1, s1, so1, m1, cap1, rfl, hf1, hk1, hn1⟩ := arg_term (hval 1 27 v1 rfl rfl) h1
    obtain ⟨k2, n2, f2, s2, so2, m2, cap2, rfl, hf2, hk2, hn2⟩ := arg_term (hval 2 27 v2 rfl rfl) h2
    exact (numOrd_any k0 n0 f0 s0 so0 m0 cap0 k1 n1 f1 s1 so1 m1 cap1 k2 n2 f2 s2 so2 m2 cap2 hf0 hk0 hn0 hf1 hk1 hn1 hf2 hk2 hn2 W ht).mono (fun e w' h => ⟨h.1, h.2.below⟩)

theorem numOrder_said : Rows.NumOrderSaid :=
  OpenClaim.holds_of_cond 12 Tryd.f12 rfl rfl rfl rfl rfl rfl rfl ⟨rfl, rfl, rfl, rfl, rfl⟩ rfl rfl rfl rfl rfl (by kernel_rfl) Tryd.func12 (by kernel_rfl)
    (of_decide_eq_true (by kernel_rfl)) (by unfold Func.isWrapper; first | (rw [if_pos (by decide +kernel)]; kernel_rfl) | (rw [if_neg (by decide +kernel)]; exact ⟨rfl, rfl⟩))
    (fun os started H enc _ Fi => by rw [OpenClaim.pre_eq_preRow]; exact numOrder_lifted os started H enc Fi)

theorem numOrder_plain (f : FuncId) (fn : Func) (hf : Tryd.pinned.checked.prog.funcNamed "exitwave/exitwavelaw1.NumOrder" = some f) (hfn : Tryd.pinned.checked.prog.funcs[f]? = some fn) :
    false = Tryd.pinned.checked.prog.looks [] ∧ ∀ (j : Nat) t, fn.params[j]? = some t → Tryd.pinned.checked.prog.wantsStandIn t = false := by
  obtain rfl : f = 12 := Option.some.inj ((show Tryd.prog.funcNamed "exitwave/exitwavelaw1.NumOrder" = some 12 by kernel_rfl).symm.trans hf) |>.symm
  obtain rfl : fn = Tryd.f12 := (Option.some.inj (Tryd.func12.symm.trans hfn)).symm
  refine ⟨by kernel_rfl, fun j t ht => ?_⟩
  rw [Tryd.params12] at ht
  have hm := Array.mem_of_getElem? ht
  have hall : ∀ t ∈ (#[27, 27, 27] : Array TypeId), Tryd.prog.wantsStandIn t = false := by decide +kernel
  exact hall t hm

theorem numOrder_holds : Rows.NumOrderCardSaid :=
  Claim7.holds_tied_plain_at .later [] _ _ _ _ numOrder_said (fun _ h => by cases h) (by kernel_rfl) (fun _ h => by cases h) numOrder_row_tie rfl ⟨rfl, rfl⟩ (by kernel_rfl) rfl numOrder_plain (by kernel_rfl)

end Go.Proofs.YtlpifchimnnfdaaDoor
