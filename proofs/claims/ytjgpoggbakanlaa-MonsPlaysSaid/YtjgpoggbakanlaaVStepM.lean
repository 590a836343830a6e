/- An act on both tables of monitors, whichever. -/
import Derived.Test.YtjgpoggbakanlaaVStepM1
import Derived.Test.YtjgpoggbakanlaaVStepM2
import Derived.Test.YtjgpoggbakanlaaVStepM3
import Derived.Test.YtjgpoggbakanlaaVStepM4
import Derived.Test.YtjgpoggbakanlaaVStepM5
import Derived.Test.YtjgpoggbakanlaaVStepM6
import Derived.Test.YtjgpoggbakanlaaVStepM7
import Derived.Test.YtjgpoggbakanlaaVStepM8
namespace Go.Proofs.Ytjgpoggbakanlaa
open Go.RowKit
attribute [local irreducible] Ext

theorem stepm_any {W w : World} {mb ob gb rb : Nat} {K1 K2 : List (Int × (Int × Int × ByteArray))} (op ref pid : Int) (name : ByteArray) (hr : -9223372036854775808 ≤ ref) (h : Two (fun _ => False) W w mb ob gb rb K1 K2 K1 K2) (hm1 : K1.length ≤ 100000) (hm2 : K2.length ≤ 100000) :
    Calls Try.prog 15 #[.pointer (some ⟨mb, 0, none⟩), .pointer (some ⟨rb, 0, none⟩), .agg #[.int .i64 op, .int .i64 ref, .int .i64 pid, .string name]] w fun e w' =>
      e = .returned (.bool true) ∧ ∃ K1' K2', Two (fun _ => False) W w' mb ob gb rb K1' K2' K1' K2' ∧ K1'.length ≤ K1.length + 1 ∧ K2'.length ≤ K2.length + 1 := by
  have hl := stepM_len (K1, K2) op ref pid name
  have main : Calls Try.prog 15 #[.pointer (some ⟨mb, 0, none⟩), .pointer (some ⟨rb, 0, none⟩), .agg #[.int .i64 op, .int .i64 ref, .int .i64 pid, .string name]] w fun e w' =>
      e = .returned (.bool true) ∧ Two (fun _ => False) W w' mb ob gb rb (stepM (K1, K2) op ref pid name).1 (stepM (K1, K2) op ref pid name).2 (stepM (K1, K2) op ref pid name).1 (stepM (K1, K2) op ref pid name).2 := by
    by_cases h1 : op = 1
    · subst h1; exact stepm_op1 ref pid name hr h hm1 hm2
    by_cases h2 : op = 2
    · subst h2; exact stepm_op2 ref pid name hr h hm1 hm2
    by_cases h3 : op = 3
    · subst h3; exact stepm_op3 ref pid name hr h hm1 hm2
    by_cases h4 : op = 4
    · subst h4; exact stepm_op4 ref pid name hr h hm1 hm2
    by_cases h5 : op = 5
    · subst h5; exact stepm_op5 ref pid name hr h hm1 hm2
    by_cases h6 : op = 6
    · subst h6; exact stepm_op6 ref pid name hr h hm1 hm2
    by_cases h7 : op = 7
    · subst h7; exact stepm_op7 ref pid name hr h hm1 hm2
    exact stepm_else op ref pid name hr h hm1 hm2 h1 h2 h3 h4 h5 h6 h7
  exact main.mono fun _ _ hp => ⟨hp.1, _, _, hp.2, hl.1, hl.2⟩

end Go.Proofs.Ytjgpoggbakanlaa
