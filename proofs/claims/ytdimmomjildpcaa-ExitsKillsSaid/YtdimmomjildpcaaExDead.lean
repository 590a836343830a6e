/- What the dead answer. -/
import Derived.Test.YtdimmomjildpcaaExChk
namespace Go.Proofs.Ytdimmomjildpcaa
open Go.RowKit
attribute [local irreducible] Ext
attribute [local go_sem] run_store_float

/-- The block of a result that is a signal is written. -/
theorem SBox.fill {W : World} {B : Nat} {fr tt kd id rf : Int} {ln : Bool} {nm : ByteArray} {k n : Int} {f : Nat} {s : ByteArray} {so : Option Addr} {m cap : Nat} (h : SBox W B fr tt kd id rf ln nm k n f s so m cap)
    (fr' tt' kd' id' rf' : Int) (ln' : Bool) (nm' : ByteArray) (k' n' : Int) (f' : Nat) (s' : ByteArray) (so' : Option Addr) (m' cap' : Nat) :
    SBox ((((((((((((W.setCell ⟨B, 0, none⟩ (.int .i64 fr')).setCell ⟨B, 1, none⟩ (.int .i64 tt')).setCell ⟨B, 2, none⟩ (.int .i64 kd')).setCell ⟨B, 3, none⟩ (.int .i64 id')).setCell ⟨B, 4, none⟩ (.int .i64 rf')).setCell ⟨B, 5, none⟩ (.bool ln')).setCell ⟨B, 6, none⟩ (.string nm')).setCell ⟨B, 7, none⟩ (.int .i64 k')).setCell ⟨B, 8, none⟩ (.int .i64 n')).setCell ⟨B, 9, none⟩ (.float .f64 f')).setCell ⟨B, 10, none⟩ (.string s')).setCell ⟨B, 11, none⟩ (.slice so' m' cap')) B fr' tt' kd' id' rf' ln' nm' k' n' f' s' so' m' cap' := by
  unfold SBox at h ⊢
  have h0 := heap_set (o := 0) h (.int .i64 fr')
  have h1 := heap_set (o := 1) h0 (.int .i64 tt')
  have h2 := heap_set (o := 2) h1 (.int .i64 kd')
  have h3 := heap_set (o := 3) h2 (.int .i64 id')
  have h4 := heap_set (o := 4) h3 (.int .i64 rf')
  have h5 := heap_set (o := 5) h4 (.bool ln')
  have h6 := heap_set (o := 6) h5 (.string nm')
  have h7 := heap_set (o := 7) h6 (.int .i64 k')
  have h8 := heap_set (o := 8) h7 (.int .i64 n')
  have h9 := heap_set (o := 9) h8 (.float .f64 f')
  have h10 := heap_set (o := 10) h9 (.string s')
  have h11 := heap_set (o := 11) h10 (.slice so' m' cap')
  simpa using h11

/-- Stores into one block. -/
def sets (w : World) (B : Nat) : List (Nat × Value) → World
  | [] => w
  | x :: xs => sets (w.setCell ⟨B, x.1, none⟩ x.2) B xs

theorem sets_mod {F : Nat → Prop} {w : World} {B : Nat} (hz : F B ∨ w.heap.size ≤ B) : ∀ (l : List (Nat × Value)) {W : World}, Mod F w W → Mod F w (sets W B l)
  | [], _, h => h
  | x :: xs, _, h => sets_mod hz xs (h.setCell (p := ⟨B, x.1, none⟩) hz x.2)

theorem ext_sets {w W : World} {B : Nat} (h : Ext w W) (hB : w.heap.size ≤ B) (l : List (Nat × Value)) : Ext w (sets W B l) := by
  unfold Ext at h ⊢
  exact sets_mod (.inr hB) l h

set_option maxRecDepth 100000 in
set_option maxHeartbeats 1000000 in
theorem said_any (fr tt kd id rf : Int) (ln : Bool) (nm : ByteArray) (k n : Int) (f : Nat) (s : ByteArray) (so : Option Addr) (m cap : Nat) (w : World) :
    Calls Try.prog 21 #[.agg #[.int .i64 fr, .int .i64 tt, .int .i64 kd, .int .i64 id, .int .i64 rf, .bool ln, .string nm, .int .i64 k, .int .i64 n, .float .f64 f, .string s, .slice so m cap]] w fun e w' =>
      e = .returned (if kd = 2 then .iface 50 (.agg #[]) else if kd = 3 then .iface 52 (.agg #[.int .i64 id]) else if kd = 6 then .iface 54 (.agg #[.int .i64 rf]) else .nilIface) ∧ Ext w w' := by
  obtain ⟨A, hA⟩ : ∃ A : Value, (if kd = 2 then .iface 50 (.agg #[]) else if kd = 3 then .iface 52 (.agg #[.int .i64 id]) else if kd = 6 then .iface 54 (.agg #[.int .i64 rf]) else .nilIface) = A := ⟨_, rfl⟩
  rw [hA]
  have HA := Lib.hid hA
  clear hA
  go_enter Try.func21, Try.ntmps21
  go_wp2_with fail
  all_goals
    refine bodyPost_ret (v := A) ?_ rfl ⟨rfl, (Ext.refl w).alloc _⟩
    obtain rfl := HA.out
    simp_all [results, Try.f21, go_sem]

end Go.Proofs.Ytdimmomjildpcaa
