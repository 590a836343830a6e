/- What the dead answer: the program's walk. -/
import Derived.Test.YtdimmomjildpcaaExDead
namespace Go.Proofs.Ytdimmomjildpcaa
open Go.RowKit
attribute [local irreducible] Ext
attribute [local go_sem] run_store_float

theorem as_ll (v : Value) (w : World) : (Instr.typeAssert (.iface 50 v) 20 50 true).run Try.prog w = .ok (.tuple #[v, .bool true]) w := by kernel_rfl
theorem as_lu (v : Value) (w : World) : (Instr.typeAssert (.iface 50 v) 20 52 true).run Try.prog w = .ok (.tuple #[.agg #[.int .i64 0], .bool false]) w := by kernel_rfl
theorem as_lx (v : Value) (w : World) : (Instr.typeAssert (.iface 50 v) 20 54 true).run Try.prog w = .ok (.tuple #[.agg #[.int .i64 0], .bool false]) w := by kernel_rfl
theorem as_ul (v : Value) (w : World) : (Instr.typeAssert (.iface 52 v) 20 50 true).run Try.prog w = .ok (.tuple #[.agg #[], .bool false]) w := by kernel_rfl
theorem as_uu (v : Value) (w : World) : (Instr.typeAssert (.iface 52 v) 20 52 true).run Try.prog w = .ok (.tuple #[v, .bool true]) w := by kernel_rfl
theorem as_ux (v : Value) (w : World) : (Instr.typeAssert (.iface 52 v) 20 54 true).run Try.prog w = .ok (.tuple #[.agg #[.int .i64 0], .bool false]) w := by kernel_rfl
theorem as_xl (v : Value) (w : World) : (Instr.typeAssert (.iface 54 v) 20 50 true).run Try.prog w = .ok (.tuple #[.agg #[], .bool false]) w := by kernel_rfl
theorem as_xu (v : Value) (w : World) : (Instr.typeAssert (.iface 54 v) 20 52 true).run Try.prog w = .ok (.tuple #[.agg #[.int .i64 0], .bool false]) w := by kernel_rfl
theorem as_xx (v : Value) (w : World) : (Instr.typeAssert (.iface 54 v) 20 54 true).run Try.prog w = .ok (.tuple #[v, .bool true]) w := by kernel_rfl
theorem as_nl (w : World) : (Instr.typeAssert .nilIface 20 50 true).run Try.prog w = .ok (.tuple #[.agg #[], .bool false]) w := by kernel_rfl
theorem as_nu (w : World) : (Instr.typeAssert .nilIface 20 52 true).run Try.prog w = .ok (.tuple #[.agg #[.int .i64 0], .bool false]) w := by kernel_rfl
theorem as_nx (w : World) : (Instr.typeAssert .nilIface 20 54 true).run Try.prog w = .ok (.tuple #[.agg #[.int .i64 0], .bool false]) w := by kernel_rfl
attribute [local go_sem] as_ll as_lu as_lx as_ul as_uu as_ux as_xl as_xu as_xx as_nl as_nu as_nx

/-- "noproc" -/
def npS : ByteArray := ⟨#[110, 111, 112, 114, 111, 99]⟩

section
variable {W : World} {B : Nat} {tt fr : Int}
theorem SBox.to_link (h : SBox W B tt fr 0 0 0 false ⟨#[]⟩ 0 0 0 ⟨#[]⟩ none 0 0) : SBox (((((((W.setCell ⟨B, 2, none⟩ (.int .i64 5)).setCell ⟨B, 5, none⟩ (.bool true)).setCell ⟨B, 7, none⟩ (.int .i64 3)).setCell ⟨B, 8, none⟩ (.int .i64 0)).setCell ⟨B, 9, none⟩ (.float .f64 0)).setCell ⟨B, 10, none⟩ (.string ⟨#[110, 111, 112, 114, 111, 99]⟩)).setCell ⟨B, 11, none⟩ (.slice none 0 0)) B tt fr 5 0 0 true ⟨#[]⟩ 3 0 0 ⟨#[110, 111, 112, 114, 111, 99]⟩ none 0 0 := by
  unfold SBox at h ⊢
  have h0 := heap_set (o := 2) h (.int .i64 5)
  have h1 := heap_set (o := 5) h0 (.bool true)
  have h2 := heap_set (o := 7) h1 (.int .i64 3)
  have h3 := heap_set (o := 8) h2 (.int .i64 0)
  have h4 := heap_set (o := 9) h3 (.float .f64 0)
  have h5 := heap_set (o := 10) h4 (.string ⟨#[110, 111, 112, 114, 111, 99]⟩)
  have h6 := heap_set (o := 11) h5 (.slice none 0 0)
  simpa using h6

theorem SBox.to_ack {id : Int} (h : SBox W B tt fr 0 0 0 false ⟨#[]⟩ 0 0 0 ⟨#[]⟩ none 0 0) : SBox ((W.setCell ⟨B, 2, none⟩ (.int .i64 4)).setCell ⟨B, 3, none⟩ (.int .i64 id)) B tt fr 4 id 0 false ⟨#[]⟩ 0 0 0 ⟨#[]⟩ none 0 0 := by
  unfold SBox at h ⊢
  have h0 := heap_set (o := 2) h (.int .i64 4)
  have h1 := heap_set (o := 3) h0 (.int .i64 id)
  simpa using h1

theorem SBox.to_down {rf : Int} (h : SBox W B tt fr 0 0 0 false ⟨#[]⟩ 0 0 0 ⟨#[]⟩ none 0 0) : SBox (((((((W.setCell ⟨B, 2, none⟩ (.int .i64 8)).setCell ⟨B, 4, none⟩ (.int .i64 rf)).setCell ⟨B, 7, none⟩ (.int .i64 3)).setCell ⟨B, 8, none⟩ (.int .i64 0)).setCell ⟨B, 9, none⟩ (.float .f64 0)).setCell ⟨B, 10, none⟩ (.string ⟨#[110, 111, 112, 114, 111, 99]⟩)).setCell ⟨B, 11, none⟩ (.slice none 0 0)) B tt fr 8 0 rf false ⟨#[]⟩ 3 0 0 ⟨#[110, 111, 112, 114, 111, 99]⟩ none 0 0 := by
  unfold SBox at h ⊢
  have h0 := heap_set (o := 2) h (.int .i64 8)
  have h1 := heap_set (o := 4) h0 (.int .i64 rf)
  have h2 := heap_set (o := 7) h1 (.int .i64 3)
  have h3 := heap_set (o := 8) h2 (.int .i64 0)
  have h4 := heap_set (o := 9) h3 (.float .f64 0)
  have h5 := heap_set (o := 10) h4 (.string ⟨#[110, 111, 112, 114, 111, 99]⟩)
  have h6 := heap_set (o := 11) h5 (.slice none 0 0)
  simpa using h6

theorem SBox.to_np {kd id rf : Int} {ln : Bool} (h : SBox W B tt fr kd id rf ln ⟨#[]⟩ 0 0 0 ⟨#[]⟩ none 0 0) : SBox (((((W.setCell ⟨B, 7, none⟩ (.int .i64 3)).setCell ⟨B, 8, none⟩ (.int .i64 0)).setCell ⟨B, 9, none⟩ (.float .f64 0)).setCell ⟨B, 10, none⟩ (.string ⟨#[110, 111, 112, 114, 111, 99]⟩)).setCell ⟨B, 11, none⟩ (.slice none 0 0)) B tt fr kd id rf ln ⟨#[]⟩ 3 0 0 ⟨#[110, 111, 112, 114, 111, 99]⟩ none 0 0 := by
  unfold SBox at h ⊢
  have h0 := heap_set (o := 7) h (.int .i64 3)
  have h1 := heap_set (o := 8) h0 (.int .i64 0)
  have h2 := heap_set (o := 9) h1 (.float .f64 0)
  have h3 := heap_set (o := 10) h2 (.string ⟨#[110, 111, 112, 114, 111, 99]⟩)
  have h4 := heap_set (o := 11) h3 (.slice none 0 0)
  simpa using h4

end

/-- What Dead tells. -/
def DeadIs (fr tt kd id rf a b c d e : Int) (l : Bool) (q : Int) (z : ByteArray) (is : Bool) : Prop :=
  (fr ≠ 0 ∧ kd = 2 ∧ a = tt ∧ b = fr ∧ c = 5 ∧ d = 0 ∧ e = 0 ∧ l = true ∧ q = 3 ∧ z = npS ∧ is = true) ∨
  (fr ≠ 0 ∧ kd = 3 ∧ a = tt ∧ b = fr ∧ c = 4 ∧ d = id ∧ e = 0 ∧ l = false ∧ q = 0 ∧ z = ⟨#[]⟩ ∧ is = true) ∨
  (fr ≠ 0 ∧ kd = 6 ∧ a = tt ∧ b = fr ∧ c = 8 ∧ d = 0 ∧ e = rf ∧ l = false ∧ q = 3 ∧ z = npS ∧ is = true) ∨
  ((fr = 0 ∨ (kd ≠ 2 ∧ kd ≠ 3 ∧ kd ≠ 6)) ∧ a = 0 ∧ b = 0 ∧ c = 0 ∧ d = 0 ∧ e = 0 ∧ l = false ∧ q = 0 ∧ z = ⟨#[]⟩ ∧ is = false)

theorem dead_is (fr tt kd id rf : Int) : ∃ a b c d e l q z is, DeadIs fr tt kd id rf a b c d e l q z is := by
  by_cases h0 : fr = 0
  · exact ⟨_, _, _, _, _, _, _, _, _, .inr (.inr (.inr ⟨.inl h0, rfl, rfl, rfl, rfl, rfl, rfl, rfl, rfl, rfl⟩))⟩
  · by_cases h2 : kd = 2
    · exact ⟨_, _, _, _, _, _, _, _, _, .inl ⟨h0, h2, rfl, rfl, rfl, rfl, rfl, rfl, rfl, rfl, rfl⟩⟩
    · by_cases h3 : kd = 3
      · exact ⟨_, _, _, _, _, _, _, _, _, .inr (.inl ⟨h0, h3, rfl, rfl, rfl, rfl, rfl, rfl, rfl, rfl, rfl⟩)⟩
      · by_cases h6 : kd = 6
        · exact ⟨_, _, _, _, _, _, _, _, _, .inr (.inr (.inl ⟨h0, h6, rfl, rfl, rfl, rfl, rfl, rfl, rfl, rfl, rfl⟩))⟩
        · exact ⟨_, _, _, _, _, _, _, _, _, .inr (.inr (.inr ⟨.inr ⟨h2, h3, h6⟩, rfl, rfl, rfl, rfl, rfl, rfl, rfl, rfl, rfl⟩))⟩

end Go.Proofs.Ytdimmomjildpcaa
