/- A term's own fields: the program's test. -/
import Derived.Test.YtdimmomjildpcaaTmFields
namespace Go.Proofs.Ytdimmomjildpcaa
open Go.RowKit
attribute [local irreducible] Ext

theorem nat_zero (f : Nat) : ((f : Int) == 0) = decide (f = 0) := int_zero f

set_option maxRecDepth 100000 in
set_option maxHeartbeats 4000000 in
theorem plain_any (k n : Int) (f : Nat) (s : ByteArray) (so : Option Addr) (m cap : Nat) (w : World) (hf : f < 18446744073709551616) :
    Calls Try.prog 41 #[.agg #[.int .i64 k, .int .i64 n, .float .f64 f, .string s, .slice so m cap]] w fun e w' => e = .returned (.bool (fieldsV k n f s m)) ∧ Ext w w' := by
  obtain ⟨r, hr⟩ : ∃ r, fieldsV k n f s m = r := ⟨_, rfl⟩
  rw [hr]
  have HR := Lib.hid hr
  have HS := Lib.hid (str_nil s)
  have HF := Lib.hid (finF_not f)
  have HLT := Lib.hid hf
  have hb := run_bits f
  clear hr hf
  go_enter Try.func41, Try.ntmps41
  go_wp2_with fail
  go_quiet (fail)
  clear hb
  go_wp2_with (first
    | (go_at_call 44; (with_reducible refine (isNaN_any _ _).mono ?_); rintro e wa ⟨rfl, rfl⟩)
    | (go_at_call 45; (with_reducible refine (isInf_any _ HLT.out _).mono ?_); rintro e wa ⟨rfl, rfl⟩)
    | fail)
  all_goals go_ret
  all_goals refine ⟨?_, ?_⟩
  all_goals first
    | exact ((Ext.refl w).alloc _).drewN nq
    | (have h1 := HS.out
       have h2 := HF.out
       obtain rfl := HR.out
       simp_all [fieldsV, numV]
       try (rw [int_zero])
       try (first | omega | (rw [Bool.eq_iff_iff]; simpa using h1) | (rw [decide_eq_true (show s.size ≤ 64 by omega)]; rfl)))

end Go.Proofs.Ytdimmomjildpcaa
