/- A law's argument that is a row of acts (three whole numbers each). -/
import Derived.Test.YtoofhccjjhhipaaLift
import Derived.Test.YtoofhccjjhhipaaMem
import Derived.Deep.Strs
namespace Go.Proofs.Ytoofhccjjhhipaa
open Go.ChangeShapes Go.WideShapes Go.ChangeAt Go.RowKit Go.Deep

/-- An argument's slice of acts: it lies below block B. -/
def ArgActs (B : Nat) (w : World) (v : Value) (l : List (Int × Int × Int)) : Prop :=
  ∃ so cap, v = .slice so l.length cap ∧ ∀ i x, l[i]? = some x → ∃ b o, so = some ⟨b, o, none⟩ ∧ b < B ∧ w.cell? ⟨b, o + i * 3, none⟩ = some (.int .i64 x.1) ∧ w.cell? ⟨b, o + i * 3 + 1, none⟩ = some (.int .i64 x.2.1) ∧ w.cell? ⟨b, o + i * 3 + 2, none⟩ = some (.int .i64 x.2.2)

theorem act_under : ∃ f0 f1 f2 : Field, Try.prog.underlying 31 = some (.struct #[f0, f1, f2]) ∧ f0.type = 3 ∧ f0.offset = 0 ∧ f1.type = 3 ∧ f1.offset = 1 ∧ f2.type = 3 ∧ f2.offset = 2 :=
  ⟨_, _, _, Try.underlying31, rfl, rfl, rfl, rfl, rfl, rfl⟩

theorem arg_acts {H : Type} {enc : TypeId × Value → H} {W : World} {a0 : Option Addr} {len cap : Nat} {d : DataW H} {p : List MemPlace}
    (h : DataW.Trod enc Try.prog W 0 (fun _ => true) true 22 (.slice a0 len cap) d p) :
    ∃ l : List (Int × Int × Int), l.length = len ∧ ArgActs W.heap.size W (.slice a0 l.length cap) l ∧ ∀ x ∈ l, -9223372036854775808 ≤ x.2.1 ∧ x.2.1 ≤ 9223372036854775807 := by
  obtain ⟨fuel, hf⟩ := h
  obtain ⟨f0, f1, f2, hu, t0, o0, t1, o1, t2, o2⟩ := act_under
  have hc3 : Try.prog.cellsOf 31 = 3 := by kernel_rfl
  have hc1 : Try.prog.cellsOf 3 = 1 := by kernel_rfl
  rcases DataW.trod_slice Try.underlying22 hf with ⟨hcs, _⟩ | ⟨a, len', cap', elems, rest, n, _, hcs, _, _, hlc, _, hel, hcell, _⟩
  · simp [Value.cells] at hcs
    obtain ⟨rfl, rfl, rfl⟩ := hcs
    exact ⟨[], rfl, ⟨none, 0, rfl, fun i x hx => by simp at hx⟩, fun _ h => by cases h⟩
  · simp [Value.cells] at hcs
    obtain ⟨rfl, rfl, rfl⟩ := hcs
    have each : ∀ i, ∃ x : Int × Int × Int, i < len → W.cell? (a.add (i * 3)) = some (.int .i64 x.1) ∧ W.cell? ((a.add (i * 3)).add 1) = some (.int .i64 x.2.1) ∧ W.cell? ((a.add (i * 3)).add 2) = some (.int .i64 x.2.2) ∧ (-9223372036854775808 ≤ x.2.1 ∧ x.2.1 ≤ 9223372036854775807) := by
      intro i
      by_cases hi : i < len
      · have h1 := hcell i hi
        rw [List.getElem?_eq_getElem (by omega), hc3, Option.bind_eq_some_iff] at h1
        obtain ⟨cs, hcs, hd⟩ := h1
        obtain ⟨_, hl3, hc⟩ := World.cells?_some hcs
        obtain ⟨y0, y1, y2, m, _, _, g0, g1, g2⟩ := trod_struct3 hu hd
        rw [t0, o0, hc1] at g0
        rw [t1, o1, hc1] at g1
        rw [t2, o2, hc1] at g2
        obtain ⟨z0, e0, _, _⟩ := DataW.trod_int Try.underlying3 g0
        obtain ⟨z1, e1, _, w1⟩ := DataW.trod_int Try.underlying3 g1
        obtain ⟨z2, e2, _, _⟩ := DataW.trod_int Try.underlying3 g2
        match cs, hl3, hc, e0, e1, e2 with
        | [c0, c1, c2], _, hc, e0, e1, e2 =>
          refine ⟨(z0, z1, z2), fun _ => ⟨?_, ?_, ?_, range_i64 w1⟩⟩
          · have := hc 0 (by omega)
            simp at e0
            simpa [Addr.add, e0] using this
          · have := hc 1 (by omega)
            simp at e1
            rw [this]
            simp [e1]
          · have := hc 2 (by omega)
            simp at e2
            rw [this]
            simp [e2]
      · exact ⟨(0, 0, 0), fun h => absurd h hi⟩
    refine ⟨(List.range len).map fun i => (each i).choose, by simp, ⟨some a, cap, by simp, ?_⟩, ?_⟩
    · intro i x hx
      rw [List.getElem?_map] at hx
      cases hr : (List.range len)[i]? with
      | none => rw [hr] at hx; cases hx
      | some q =>
        obtain ⟨hq1, hq2⟩ := List.getElem?_eq_some_iff.1 hr
        simp at hq1
        have hqi : q = i := by simpa using hq2.symm
        subst hqi
        rw [hr] at hx
        have hx' : (each q).choose = x := by simpa using hx
        obtain ⟨h0, h1, h2, _⟩ := (each q).choose_spec hq1
        rw [hx'] at h0 h1 h2
        have z0 : ∃ v, W.cell? (a.add (0 * 3)) = some (.int .i64 v) := by
          obtain ⟨xx, hxx⟩ := each 0
          exact ⟨_, (hxx (by omega)).1⟩
        obtain ⟨ab, ao, ai⟩ := a
        obtain ⟨v0, z0⟩ := z0
        have hs : ai = none := by
          rw [Nat.zero_mul, Addr.add_zero'] at z0
          cases ai with
          | none => rfl
          | some n =>
            unfold World.cell? at z0
            split at z0
            · simp at z0
            · cases z0
        subst hs
        rw [Addr.add_lit] at h0
        rw [Addr.add_lit, Addr.add_lit] at h1 h2
        exact ⟨ab, ao, rfl, World.block_lt_of_cell? W _ h0, h0, h1, h2⟩
    · intro x hx
      obtain ⟨i, hi, rfl⟩ := List.mem_map.1 hx
      exact ((each i).choose_spec (by simpa using hi)).2.2.2

end Go.Proofs.Ytoofhccjjhhipaa
