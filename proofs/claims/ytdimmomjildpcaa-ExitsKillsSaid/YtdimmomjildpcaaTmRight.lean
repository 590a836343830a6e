/- A right number: the document's test. -/
import Derived.Test.YtdimmomjildpcaaFltA
namespace Go.Proofs.Ytdimmomjildpcaa
open Go.RowKit
attribute [local irreducible] Ext

theorem int_zero (m : Nat) : ((m : Int) == 0) = decide (m = 0) := by
  rw [Bool.eq_iff_iff]
  simp

theorem str_nil (s : ByteArray) : s.toList = [] ↔ s = ⟨#[]⟩ := by
  have h := str_eq s ⟨#[]⟩
  rw [Bool.eq_iff_iff] at h
  simpa using h

set_option maxRecDepth 100000 in
set_option maxHeartbeats 2000000 in
theorem rright_any (k n : Int) (f : Nat) (s : ByteArray) (so : Option Addr) (m cap : Nat) (w : World) :
    Calls Try.prog 42 #[.agg #[.int .i64 k, .int .i64 n, .float .f64 f, .string s, .slice so m cap]] w fun e w' => e = .returned (.bool (numV k n f s m)) ∧ Ext w w' := by
  obtain ⟨r, hr⟩ : ∃ r, numV k n f s m = r := ⟨_, rfl⟩
  rw [hr]
  have HR := Lib.hid hr
  clear hr
  have HS := Lib.hid (str_nil s)
  go_enter Try.func42, Try.ntmps42
  go_wp2_with (first
    | (go_at_call 43; (with_reducible refine (plus_any _ _).mono ?_); rintro e wa ⟨rfl, rfl⟩)
    | (go_at_call 46; (with_reducible refine (finite_any _ _).mono ?_); rintro e wa ⟨rfl, hEa⟩)
    | fail)
  all_goals go_ret
  all_goals refine ⟨?_, ?_⟩
  all_goals first
    | exact (Ext.refl w).alloc _
    | exact ((Ext.refl w).alloc _).trans hEa
    | (have h1 := HS.out
       obtain rfl := HR.out
       simp_all [numV]
       try omega)

end Go.Proofs.Ytdimmomjildpcaa
