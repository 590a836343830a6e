/- A term's own fields: the document's and the program's tests. -/
import Derived.Test.YtdimmomjildpcaaTmFew
import Derived.Test.YtdimmomjildpcaaTmRight
namespace Go.Proofs.Ytdimmomjildpcaa
open Go.RowKit
attribute [local irreducible] Ext

set_option maxRecDepth 100000 in
set_option maxHeartbeats 4000000 in
theorem fields_any (k n : Int) (f : Nat) (s : ByteArray) (so : Option Addr) (m cap : Nat) (w : World) :
    Calls Try.prog 39 #[.agg #[.int .i64 k, .int .i64 n, .float .f64 f, .string s, .slice so m cap]] w fun e w' => e = .returned (.bool (fieldsV k n f s m)) ∧ Ext w w' := by
  obtain ⟨r, hr⟩ : ∃ r, fieldsV k n f s m = r := ⟨_, rfl⟩
  rw [hr]
  have HR := Lib.hid hr
  clear hr
  have HS := Lib.hid (str_nil s)
  go_enter Try.func39, Try.ntmps39
  go_wp2_with (first
    | (go_at_call 43; (with_reducible refine (plus_any _ _).mono ?_); rintro e wa ⟨rfl, rfl⟩)
    | (go_at_call 42; (with_reducible refine (rright_any _ _ _ _ _ _ _ _).mono ?_); rintro e wa ⟨rfl, hEa⟩)
    | fail)
  all_goals go_ret
  all_goals refine ⟨?_, ?_⟩
  all_goals first
    | exact (Ext.refl w).alloc _
    | exact ((Ext.refl w).alloc _).trans hEa
    | (have h1 := HS.out
       obtain rfl := HR.out
       simp_all [fieldsV]
       try (rw [int_zero])
       try (first | omega | (rw [decide_eq_true (show s.size ≤ 64 by omega)]; rfl)))

set_option maxRecDepth 100000 in
set_option maxHeartbeats 2000000 in
theorem rown_any (k n : Int) (f : Nat) (s : ByteArray) (so : Option Addr) (m cap : Nat) (w : World) (hm : m ≤ 1000000000) :
    Calls Try.prog 38 #[.agg #[.int .i64 k, .int .i64 n, .float .f64 f, .string s, .slice so m cap]] w fun e w' => e = .returned (.int .i64 (ownV k m)) ∧ Ext w w' := by
  obtain ⟨r, hr⟩ : ∃ r, ownV k m = r := ⟨_, rfl⟩
  rw [hr]
  have HR := Lib.hid hr
  have e1 : IntKind.i64.wrap (2 * (m : Int)) = 2 * (m : Int) := IntWalk.i64_in _ (by omega)
  have e2 : IntKind.i64.wrap (2 + (m : Int)) = 2 + (m : Int) := IntWalk.i64_in _ (by omega)
  have e3 : IntKind.i64.wrap (1 + (m : Int)) = 1 + (m : Int) := IntWalk.i64_in _ (by omega)
  clear hr hm
  go_enter Try.func38, Try.ntmps38
  go_wp2_with fail
  all_goals go_ret
  all_goals refine ⟨?_, (Ext.refl w).alloc _⟩
  all_goals (obtain rfl := HR.out; simp_all [ownV])

set_option maxRecDepth 100000 in
set_option maxHeartbeats 2000000 in
theorem pown_any (k n : Int) (f : Nat) (s : ByteArray) (so : Option Addr) (m cap : Nat) (w : World) (hm : m ≤ 1000000000) :
    Calls Try.prog 40 #[.agg #[.int .i64 k, .int .i64 n, .float .f64 f, .string s, .slice so m cap]] w fun e w' => e = .returned (.int .i64 (ownV k m)) ∧ Ext w w' := by
  obtain ⟨r, hr⟩ : ∃ r, ownV k m = r := ⟨_, rfl⟩
  rw [hr]
  have HR := Lib.hid hr
  have e1 : IntKind.i64.wrap (2 * (m : Int)) = 2 * (m : Int) := IntWalk.i64_in _ (by omega)
  have e2 : IntKind.i64.wrap (2 + (m : Int)) = 2 + (m : Int) := IntWalk.i64_in _ (by omega)
  have e3 : IntKind.i64.wrap (1 + (m : Int)) = 1 + (m : Int) := IntWalk.i64_in _ (by omega)
  clear hr hm
  go_enter Try.func40, Try.ntmps40
  go_wp2_with fail
  all_goals go_ret
  all_goals refine ⟨?_, (Ext.refl w).alloc _⟩
  all_goals (obtain rfl := HR.out; simp_all [ownV])

end Go.Proofs.Ytdimmomjildpcaa
