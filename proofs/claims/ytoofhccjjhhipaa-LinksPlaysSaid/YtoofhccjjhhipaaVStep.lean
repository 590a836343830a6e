/- An act on both, whichever; what it does to a half that is Unlinking. -/
import Derived.Test.YtoofhccjjhhipaaVStep1
import Derived.Test.YtoofhccjjhhipaaVStep2
import Derived.Test.YtoofhccjjhhipaaVStep3
import Derived.Test.YtoofhccjjhhipaaVStep4
import Derived.Test.YtoofhccjjhhipaaVStep5
import Derived.Test.YtoofhccjjhhipaaVStep6
import Derived.Test.YtoofhccjjhhipaaVStep7
import Derived.Test.YtoofhccjjhhipaaVStep8
import Derived.Test.YtoofhccjjhhipaaVStep9
namespace Go.Proofs.Ytoofhccjjhhipaa
open Go.RowKit
attribute [local irreducible] Ext

theorem step_any {W w : World} {lb tb rb : Nat} {K : List (Int × (Int × Int × Int))} {ids : Int} (op pid id : Int) (h : Two W w lb tb rb K ids K ids) (hk : KOk K) (hm : K.length ≤ 100000) :
    Calls Try.prog 9 #[.pointer (some ⟨lb, 0, none⟩), .pointer (some ⟨rb, 0, none⟩), .agg #[.int .i64 op, .int .i64 pid, .int .i64 id]] w fun e w' =>
      e = .returned (.bool true) ∧ Two W w' lb tb rb (stepK K ids op pid id).1 (stepK K ids op pid id).2 (stepK K ids op pid id).1 (stepK K ids op pid id).2 := by
  by_cases h1 : op = 1
  · subst h1; exact step_op1 pid id h hk hm
  by_cases h2 : op = 2
  · subst h2; exact step_op2 pid id h hk hm
  by_cases h3 : op = 3
  · subst h3; exact step_op3 pid id h hk hm
  by_cases h4 : op = 4
  · subst h4; exact step_op4 pid id h hk hm
  by_cases h5 : op = 5
  · subst h5; exact step_op5 pid id h hk hm
  by_cases h6 : op = 6
  · subst h6; exact step_op6 pid id h hk hm
  by_cases h7 : op = 7
  · subst h7; exact step_op7 pid id h hk hm
  by_cases h8 : op = 8
  · subst h8; exact step_op8 pid id h hk hm
  exact step_else op pid id h hk hm h1 h2 h3 h4 h5 h6 h7 h8

/-- A pid is not Linked. -/
def Deaf (K : List (Int × (Int × Int × Int))) (p : Int) : Prop := ∀ x ∈ K, x.1 = p → x.2.2.1 ≠ 1

theorem deaf_state {K : List (Int × (Int × Int × Int))} {p : Int} (h : Deaf K p) : (lookR K p).1.2.1 ≠ 1 := by
  unfold lookR
  cases hl : look p K with
  | none => decide
  | some v => exact h _ (look_mem hl) rfl

theorem Deaf.ins {K : List (Int × (Int × Int × Int))} {p : Int} (h : Deaf K p) (hr : Rising K) (pid s n : Int) (hs : s ≠ 1 ∨ pid ≠ p) : Deaf (ins pid (pid, s, n) K) p := by
  intro x hx he
  rcases (mem_ins hr x).1 hx with rfl | hx
  · rcases hs with hs | hs
    · exact hs
    · exact absurd he hs
  · exact h x hx.1 he

theorem Deaf.del {K : List (Int × (Int × Int × Int))} {p : Int} (h : Deaf K p) (hr : Rising K) (pid : Int) : Deaf (del pid K) p := fun x hx he => h x ((mem_del hr x).1 hx).1 he

theorem Deaf.tail {K : List (Int × (Int × Int × Int))} {p : Int} (h : Deaf K p) : Deaf K.tail p := fun x hx he => h x (List.mem_of_mem_tail hx) he

theorem stepK_deaf {K : List (Int × (Int × Int × Int))} {p : Int} (h : Deaf K p) (hr : Rising K) (ids op pid id : Int) (hn : ¬ (pid = p ∧ (op = 1 ∨ op = 3 ∨ op = 7))) : Deaf (stepK K ids op pid id).1 p := by
  unfold stepK
  repeat' split
  all_goals first
    | exact h
    | exact h.ins hr _ _ _ (.inl (by decide))
    | exact h.del hr _
    | exact h.tail
    | exact h.ins hr _ _ _ (.inr (fun e => hn ⟨e, .inl (by assumption)⟩))
    | exact h.ins hr _ _ _ (.inr (fun e => hn ⟨e, .inr (.inl (by assumption))⟩))
    | exact h.ins hr _ _ _ (.inr (fun e => hn ⟨e, .inr (.inr (by assumption))⟩))

/-- Behind Unlink a pid is not Linked. -/
theorem unlink_deaf {K : List (Int × (Int × Int × Int))} (hr : Rising K) (p n : Int) : Deaf (if (lookR K p).1.2.1 = 1 then ins p (p, 2, n) K else K) p := by
  split
  · intro x hx he
    rcases (mem_ins hr x).1 hx with rfl | hx
    · exact (show (2 : Int) ≠ 1 by decide)
    · exact absurd he hx.2
  · rename_i hs
    rintro x hx rfl e
    apply hs
    unfold lookR
    rw [look_of_mem hr hx]
    exact e

end Go.Proofs.Ytoofhccjjhhipaa
