/- Numbers: what Op tells; where it stands. -/
import Derived.Test.YtlpifchimnnfdaaDoorNmReal
namespace Go.Proofs.YtlpifchimnnfdaaDoor
open Go.RowKit
attribute [local irreducible] Ext
attribute [local go_sem] run_store_float

/-- Is a sign one? -/
def sgnB (sg : ByteArray) : Bool := (sg.toList == [43]) || (sg.toList == [45]) || (sg.toList == [42]) || (sg.toList == [47]) || (sg.toList == [100, 105, 118]) || (sg.toList == [114, 101, 109])

def wholeB (sg : ByteArray) : Bool := (sg.toList == [100, 105, 118]) || (sg.toList == [114, 101, 109])

/-- What Op tells. -/
def opV (sg : ByteArray) (k n : Int) (f : Nat) (r : Bool) (k' n' : Int) (f' : Nat) (r' : Bool) : Value :=
  if sgnB sg = false then nV 0 0 0 13
  else if (r && r') = false then nV 0 0 0 11
  else if wholeB sg = true then (if (k == 1 && k' == 1) = true then dvV sg n n' else nV 0 0 0 11)
  else if (k == 1 && k' == 1) = true ∧ (sg.toList == [47]) = false then mkI (exI sg n n')
  else flV sg (realF k n f) (realF k' n' f')

/-- Where Op stands. -/
structure OpAt (w w' : World) (k n : Int) (f : Nat) (s : ByteArray) (so : Option Addr) (m cap : Nat) (k' n' : Int) (f' : Nat) (s' : ByteArray) (so' : Option Addr) (m' cap' : Nat) : Prop where
  ext : Ext w w'
  a : RBox w' w.heap.size k n f s so m cap
  b : RBox w' (w.heap.size + 1) k' n' f' s' so' m' cap'
  z : RBox w' (w.heap.size + 2) 0 0 0 ⟨#[]⟩ none 0 0

theorem OpAt.next {w w' w'' : World} {k n : Int} {f : Nat} {s : ByteArray} {so : Option Addr} {m cap : Nat} {k' n' : Int} {f' : Nat} {s' : ByteArray} {so' : Option Addr} {m' cap' : Nat} (h : OpAt w w' k n f s so m cap k' n' f' s' so' m' cap') (hE : Ext w' w'') : OpAt w w'' k n f s so m cap k' n' f' s' so' m' cap' :=
  ⟨h.ext.trans hE, h.a.ext hE, h.b.ext hE, h.z.ext hE⟩

theorem op_start (w : World) (k n : Int) (f : Nat) (s : ByteArray) (so : Option Addr) (m cap : Nat) (k' n' : Int) (f' : Nat) (s' : ByteArray) (so' : Option Addr) (m' cap' : Nat) :
    ∃ w3, ((w.alloc (.cells #[.int .i64 k, .int .i64 n, .float .f64 f, .string s, .slice so m cap] 27)).alloc (.cells #[.int .i64 k', .int .i64 n', .float .f64 f', .string s', .slice so' m' cap'] 27)).alloc (.cells #[.int .i64 0, .int .i64 0, .float .f64 0, .string ⟨#[]⟩, .slice none 0 0] 27) = w3 ∧
      OpAt w w3 k n f s so m cap k' n' f' s' so' m' cap' := by
  refine ⟨_, rfl, ?_⟩
  have e1 := (Ext.refl w).alloc (.cells #[.int .i64 k, .int .i64 n, .float .f64 f, .string s, .slice so m cap] 27)
  have b1 := RBox.new w k n f s so m cap
  have s1 : (w.alloc (.cells #[.int .i64 k, .int .i64 n, .float .f64 f, .string s, .slice so m cap] 27)).heap.size = w.heap.size + 1 := World.size_alloc _ _
  generalize w.alloc (.cells #[.int .i64 k, .int .i64 n, .float .f64 f, .string s, .slice so m cap] 27) = w1 at e1 b1 s1 ⊢
  have e2 := (Ext.refl w1).alloc (.cells #[.int .i64 k', .int .i64 n', .float .f64 f', .string s', .slice so' m' cap'] 27)
  have b2 := RBox.new w1 k' n' f' s' so' m' cap'
  have s2 : (w1.alloc (.cells #[.int .i64 k', .int .i64 n', .float .f64 f', .string s', .slice so' m' cap'] 27)).heap.size = w1.heap.size + 1 := World.size_alloc _ _
  generalize w1.alloc (.cells #[.int .i64 k', .int .i64 n', .float .f64 f', .string s', .slice so' m' cap'] 27) = w2 at e2 b2 s2 ⊢
  have e3 := (Ext.refl w2).alloc (.cells #[.int .i64 0, .int .i64 0, .float .f64 0, .string ⟨#[]⟩, .slice none 0 0] 27)
  have b3 := RBox.new w2 0 0 0 ⟨#[]⟩ none 0 0
  rw [s1] at b2
  rw [s2, s1] at b3
  exact ⟨(e1.trans e2).trans e3, (b1.ext e2).ext e3, b2.ext e3, b3⟩

theorem nbox_ne {w : World} {B b : Nat} {k n f : Int} {k' n' : Int} {f' : Nat} {s : ByteArray} {so : Option Addr} {m cap : Nat} (h : NBox w B k n f) (h' : RBox w b k' n' f' s so m cap) : B ≠ b := by
  rintro rfl
  unfold NBox at h
  unfold RBox at h'
  rw [h] at h'
  injection h' with h'
  injection h' with _ e
  exact absurd e (by decide)

theorem NBox.set5 {w : World} {B b : Nat} {k n f : Int} (h : NBox w B k n f) (hne : B ≠ b) (k' n' : Int) (f' : Nat) : NBox (set5 w b k' n' f' ⟨#[]⟩ none 0 0) B k n f := by
  unfold NBox at h ⊢
  exact (set5_mod (F := fun q => q = b) (Mod.refl _ w) (.inl rfl) k' n' f' ⟨#[]⟩ none 0 0).keep h hne

theorem two_cells {w : World} {B C : Nat} {k n f k' n' f' : Int} (h : NBox w B k n f) (h' : NBox w C k' n' f') : w.cell? ⟨B, 0, none⟩ = some (.int .i64 k) ∧ w.cell? ⟨B, 1, none⟩ = some (.int .i64 n) ∧ w.cell? ⟨B, 2, none⟩ = some (.int .u64 f) ∧ w.cell? ⟨C, 0, none⟩ = some (.int .i64 k') ∧ w.cell? ⟨C, 1, none⟩ = some (.int .i64 n') ∧ w.cell? ⟨C, 2, none⟩ = some (.int .u64 f') := by
  obtain ⟨a, b, c⟩ := h.cells
  obtain ⟨d, e, g⟩ := h'.cells
  exact ⟨a, b, c, d, e, g⟩

theorem dvV_form (sg : ByteArray) (a b : Int) : ∃ k n f e, dvV sg a b = nV k n f e := by
  unfold dvV
  split
  · exact ⟨_, _, _, _, rfl⟩
  · split
    · exact nV_form (.inl (mkI_form _))
    · exact nV_form (.inl (mkI_form _))

theorem flV_form (sg : ByteArray) (x y : Nat) : ∃ k n f e, flV sg x y = nV k n f e := by
  unfold flV
  split
  · exact ⟨_, _, _, _, rfl⟩
  · exact nV_form (.inr (mkO_form _))

theorem numV_int {n : Int} {f : Nat} {s : ByteArray} {m : Nat} (h : numV 1 n f s m = true) : -576460752303423488 ≤ n ∧ n ≤ 576460752303423487 := by
  unfold numV at h
  rw [if_pos rfl] at h
  simp only [Bool.and_eq_true, decide_eq_true_eq] at h
  exact ⟨h.1.1.2, h.1.2⟩

end Go.Proofs.YtlpifchimnnfdaaDoor
