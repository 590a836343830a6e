/- NumCompares: any two right numbers compare, and are written, as the document says -/
import Derived.Test.YtlpifchimnnfdaaDoorNmArg
import Derived.Test.YtlpifchimnnfdaaDoorNmCpWalk
namespace Go.Proofs.YtlpifchimnnfdaaDoor
open Go.ChangeShapes Go.WideShapes Go.ChangeAt Go.RowKit

def zTerm : Value := .agg #[.int .i64 0, .int .i64 0, .float .f64 0, .string ⟨#[]⟩, .slice none 0 0]

theorem numCompares_laid (os : Os) : laidMet Tryd.prog Rows.numComparesRow.laid ((laidWorld os).forCall (fun _ _ => 0) ⟨#[], #[zTerm, zTerm], []⟩).memory :=
  laidMet_of_run' 8 (by kernel_rfl) (by kernel_rfl)

theorem numCompares_reads (os : Os) {H : Type} (enc : TypeId × Value → H) : ∃ places, DataW.whole enc Tryd.prog ((laidWorld os).forCall (fun _ _ => 0) ⟨#[], #[zTerm, zTerm], []⟩).memory Tryd.f11.params.toList Rows.numComparesSpec.vars false #[zTerm, zTerm].toList 8 =
    some ([.agg [.lit (.int .i64 0), .lit (.int .i64 0), .lit (.float .f64 0), .lit (.string []), .nil], .agg [.lit (.int .i64 0), .lit (.int .i64 0), .lit (.float .f64 0), .lit (.string []), .nil]], [], places) :=
  ⟨[], by kernel_rfl⟩

set_option maxRecDepth 100000 in
theorem numCompares_lifted (os : Os) (started : os.Started) (H : Type) (enc : TypeId × Value → H) (Fi : Stop.Interp) :
    ReturnsInHanded {} Tryd.checked os 11 .any ((OpenSpec.ofChange Rows.numComparesSpec).preRow enc Tryd.prog Tryd.f11 Rows.numComparesRow.domain false Rows.numComparesRow.laid) (((OpenSpec.ofChange Rows.numComparesSpec).at Fi).post enc Tryd.prog Tryd.f11 false true false false) := by
  obtain ⟨places, hx⟩ := numCompares_reads os enc
  refine lift_row started 11 Tryd.f11 Rows.numComparesSpec Fi (by kernel_rfl) Tryd.func11 rfl rfl (by decide +kernel) ?_
    (witness_row_at (enc := enc) (C := Tryd.checked) false (laidWorld os) #[zTerm, zTerm] rfl (by kernel_rfl) (by kernel_rfl) (by kernel_rfl)
      (OpenSpec.preRow_of_cond 8 hx (by kernel_rfl) (fun k hk => by cases hk) (by kernel_rfl) (numCompares_laid os))) ?_
  · intro ds hl
    match ds, hl with
    | [_, _], _ => rfl
  · intro W base args ds p hval hA hlt ht hL
    rw [Tryd.params11] at hA hval
    obtain ⟨v0, vs0, d0, ds0, p0, q0, hargs, rfl, rfl, h0, r0⟩ := trodAll_cons hA
    obtain ⟨v1, vs1, d1, ds1, p1, q1, rfl, rfl, rfl, h1, r1⟩ := trodAll_cons r0
    obtain ⟨rfl, rfl, rfl⟩ := trodAll_nil r1
    obtain rfl : args = #[v0, v1] := by cases args; simp_all
    obtain ⟨k0, n0, f0, s0, so0, m0, cap0, rfl, hf0, hk0, hn0⟩ := arg_term (hval 0 27 v0 rfl rfl) h0
    obtain ⟨k1, n1, f1, s1, so1, m1, cap1, rfl, hf1, hk1, hn1⟩ := arg_term (hval 1 27 v1 rfl rfl) h1
    exact (numCp_any k0 n0 f0 s0 so0 m0 cap0 k1 n1 f1 s1 so1 m1 cap1 hf0 hk0 hn0 hf1 hk1 hn1 W ht hL).mono (fun e w' h => ⟨h.1, h.2.below⟩)

theorem numCompares_said : Rows.NumComparesSaid :=
  OpenClaim.holds_of_cond 11 Tryd.f11 rfl rfl rfl rfl rfl rfl rfl ⟨rfl, rfl, rfl, rfl, rfl⟩ rfl rfl rfl rfl rfl (by kernel_rfl) Tryd.func11 (by kernel_rfl)
    (of_decide_eq_true (by kernel_rfl)) (by unfold Func.isWrapper; first | (rw [if_pos (by decide +kernel)]; kernel_rfl) | (rw [if_neg (by decide +kernel)]; exact ⟨rfl, rfl⟩))
    (fun os started H enc _ Fi => by rw [OpenClaim.pre_eq_preRow]; exact numCompares_lifted os started H enc Fi)

theorem numCompares_plain (f : FuncId) (fn : Func) (hf : Tryd.pinned.checked.prog.funcNamed "exitwave/exitwavelaw1.NumCompares" = some f) (hfn : Tryd.pinned.checked.prog.funcs[f]? = some fn) :
    false = Tryd.pinned.checked.prog.looks [] ∧ ∀ (j : Nat) t, fn.params[j]? = some t → Tryd.pinned.checked.prog.wantsStandIn t = false := by
  obtain rfl : f = 11 := Option.some.inj ((show Tryd.prog.funcNamed "exitwave/exitwavelaw1.NumCompares" = some 11 by kernel_rfl).symm.trans hf) |>.symm
  obtain rfl : fn = Tryd.f11 := (Option.some.inj (Tryd.func11.symm.trans hfn)).symm
  refine ⟨by kernel_rfl, fun j t ht => ?_⟩
  rw [Tryd.params11] at ht
  have hm := Array.mem_of_getElem? ht
  have hall : ∀ t ∈ (#[27, 27] : Array TypeId), Tryd.prog.wantsStandIn t = false := by decide +kernel
  exact hall t hm

theorem numCompares_holds : Rows.NumComparesCardSaid :=
  Claim7.holds_tied_plain_at .later [] _ _ _ _ numCompares_said (fun _ h => by cases h) (by kernel_rfl) (fun _ h => by cases h) numCompares_row_tie rfl ⟨rfl, rfl⟩ (by kernel_rfl) rfl numCompares_plain (by kernel_rfl)

end Go.Proofs.YtlpifchimnnfdaaDoor
