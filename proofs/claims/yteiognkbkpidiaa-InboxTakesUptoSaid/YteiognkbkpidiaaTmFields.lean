/- A term's own fields: the document's and the program's tests. -/
import Derived.Test.YteiognkbkpidiaaTmFew
namespace Go.Proofs.Yteiognkbkpidiaa
open Go.RowKit
attribute [local irreducible] Ext

theorem int_zero (m : Nat) : ((m : Int) == 0) = decide (m = 0) := by
  rw [Bool.eq_iff_iff]
  simp

theorem str_nil (s : ByteArray) : s.toList = [] ↔ s = ⟨#[]⟩ := by
  have h := str_eq s ⟨#[]⟩
  rw [Bool.eq_iff_iff] at h
  simpa using h

set_option maxRecDepth 100000 in
set_option maxHeartbeats 2000000 in
theorem rright_any (k n : Int) (f : Nat) (s : ByteArray) (so : Option Addr) (m cap : Nat) (w : World) :
    Calls Try.prog 53 #[.agg #[.int .i64 k, .int .i64 n, .float .f64 f, .string s, .slice so m cap]] w fun e w' => e = .returned (.bool (numV k n f s m)) ∧ Ext w w' := by
  obtain ⟨r, hr⟩ : ∃ r, numV k n f s m = r := ⟨_, rfl⟩
  rw [hr]
  have HR := Lib.hid hr
  clear hr
  have HS := Lib.hid (str_nil s)
  go_enter Try.func53, Try.ntmps53
  go_wp2_with (first
    | (go_at_call 54; (with_reducible refine (plus_any _ _).mono ?_); rintro e wa ⟨rfl, rfl⟩)
    | (go_at_call 57; (with_reducible refine (finite_any _ _).mono ?_); rintro e wa ⟨rfl, hEa⟩)
    | fail)
  all_goals go_ret
  all_goals refine ⟨?_, ?_⟩
  all_goals first
    | exact (Ext.refl w).alloc _
    | exact ((Ext.refl w).alloc _).trans hEa
    | (have h1 := HS.out
       obtain rfl := HR.out
       simp_all [numV]
       try omega)

set_option maxRecDepth 100000 in
set_option maxHeartbeats 4000000 in
theorem fields_any (k n : Int) (f : Nat) (s : ByteArray) (so : Option Addr) (m cap : Nat) (w : World) :
    Calls Try.prog 50 #[.agg #[.int .i64 k, .int .i64 n, .float .f64 f, .string s, .slice so m cap]] w fun e w' => e = .returned (.bool (fieldsV k n f s m)) ∧ Ext w w' := by
  obtain ⟨r, hr⟩ : ∃ r, fieldsV k n f s m = r := ⟨_, rfl⟩
  rw [hr]
  have HR := Lib.hid hr
  clear hr
  have HS := Lib.hid (str_nil s)
  go_enter Try.func50, Try.ntmps50
  go_wp2_with (first
    | (go_at_call 54; (with_reducible refine (plus_any _ _).mono ?_); rintro e wa ⟨rfl, rfl⟩)
    | (go_at_call 53; (with_reducible refine (rright_any _ _ _ _ _ _ _ _).mono ?_); rintro e wa ⟨rfl, hEa⟩)
    | fail)
  all_goals go_ret
  all_goals refine ⟨?_, ?_⟩
  all_goals first
    | exact (Ext.refl w).alloc _
    | exact ((Ext.refl w).alloc _).trans hEa
    | (have h1 := HS.out
       obtain rfl := HR.out
       simp_all [fieldsV]
       try (rw [int_zero])
       try (first | omega | (rw [decide_eq_true (show s.size ≤ 64 by omega)]; rfl)))

set_option maxRecDepth 100000 in
set_option maxHeartbeats 2000000 in
theorem rown_any (k n : Int) (f : Nat) (s : ByteArray) (so : Option Addr) (m cap : Nat) (w : World) (hm : m ≤ 1000000000) :
    Calls Try.prog 49 #[.agg #[.int .i64 k, .int .i64 n, .float .f64 f, .string s, .slice so m cap]] w fun e w' => e = .returned (.int .i64 (ownV k m)) ∧ Ext w w' := by
  obtain ⟨r, hr⟩ : ∃ r, ownV k m = r := ⟨_, rfl⟩
  rw [hr]
  have HR := Lib.hid hr
  have e1 : IntKind.i64.wrap (2 * (m : Int)) = 2 * (m : Int) := IntWalk.i64_in _ (by omega)
  have e2 : IntKind.i64.wrap (2 + (m : Int)) = 2 + (m : Int) := IntWalk.i64_in _ (by omega)
  have e3 : IntKind.i64.wrap (1 + (m : Int)) = 1 + (m : Int) := IntWalk.i64_in _ (by omega)
  clear hr hm
  go_enter Try.func49, Try.ntmps49
  go_wp2_with fail
  all_goals go_ret
  all_goals refine ⟨?_, (Ext.refl w).alloc _⟩
  all_goals (obtain rfl := HR.out; simp_all [ownV])

set_option maxRecDepth 100000 in
set_option maxHeartbeats 2000000 in
theorem pown_any (k n : Int) (f : Nat) (s : ByteArray) (so : Option Addr) (m cap : Nat) (w : World) (hm : m ≤ 1000000000) :
    Calls Try.prog 55 #[.agg #[.int .i64 k, .int .i64 n, .float .f64 f, .string s, .slice so m cap]] w fun e w' => e = .returned (.int .i64 (ownV k m)) ∧ Ext w w' := by
  obtain ⟨r, hr⟩ : ∃ r, ownV k m = r := ⟨_, rfl⟩
  rw [hr]
  have HR := Lib.hid hr
  have e1 : IntKind.i64.wrap (2 * (m : Int)) = 2 * (m : Int) := IntWalk.i64_in _ (by omega)
  have e2 : IntKind.i64.wrap (2 + (m : Int)) = 2 + (m : Int) := IntWalk.i64_in _ (by omega)
  have e3 : IntKind.i64.wrap (1 + (m : Int)) = 1 + (m : Int) := IntWalk.i64_in _ (by omega)
  clear hr hm
  go_enter Try.func55, Try.ntmps55
  go_wp2_with fail
  all_goals go_ret
  all_goals refine ⟨?_, (Ext.refl w).alloc _⟩
  all_goals (obtain rfl := HR.out; simp_all [ownV])

end Go.Proofs.Yteiognkbkpidiaa
