/- A law's argument that is a row of acts (three whole numbers and a text each). -/
import Derived.Test.YtjgpoggbakanlaaLift
import Derived.Test.YtjgpoggbakanlaaMem
import Derived.Deep.Strs
namespace Go.Proofs.Ytjgpoggbakanlaa
open Go.ChangeShapes Go.WideShapes Go.ChangeAt Go.RowKit Go.Deep

/-- An argument's slice of acts: it lies below block B. -/
def ArgMs (B : Nat) (w : World) (v : Value) (l : List (Int × Int × Int × ByteArray)) : Prop :=
  ∃ so cap, v = .slice so l.length cap ∧ ∀ i x, l[i]? = some x → ∃ b o, so = some ⟨b, o, none⟩ ∧ b < B ∧ w.cell? ⟨b, o + i * 4, none⟩ = some (.int .i64 x.1) ∧ w.cell? ⟨b, o + i * 4 + 1, none⟩ = some (.int .i64 x.2.1) ∧ w.cell? ⟨b, o + i * 4 + 2, none⟩ = some (.int .i64 x.2.2.1) ∧ w.cell? ⟨b, o + i * 4 + 3, none⟩ = some (.string x.2.2.2)

theorem trod_struct4 {H : Type} {enc : TypeId × Value → H} {P : Program} {w : World} {base : Nat} {spare : Nat → Bool} {held : Bool} {t : TypeId} {f0 f1 f2 f3 : Field} {fuel : Nat} {cs : List Value} {x : DataW H × List MemPlace} (ht : P.underlying t = some (.struct #[f0, f1, f2, f3])) (h : DataW.trod enc P w base spare held fuel t cs = some x) :
    ∃ y0 y1 y2 y3 n, x = (.agg [y0.1, y1.1, y2.1, y3.1], y0.2 ++ (y1.2 ++ (y2.2 ++ y3.2))) ∧ cs.length = P.cellsOf t ∧ DataW.trod enc P w base spare held n f0.type ((cs.drop f0.offset).take (P.cellsOf f0.type)) = some y0 ∧
      DataW.trod enc P w base spare held n f1.type ((cs.drop f1.offset).take (P.cellsOf f1.type)) = some y1 ∧ DataW.trod enc P w base spare held n f2.type ((cs.drop f2.offset).take (P.cellsOf f2.type)) = some y2 ∧
      DataW.trod enc P w base spare held n f3.type ((cs.drop f3.offset).take (P.cellsOf f3.type)) = some y3 := by
  obtain ⟨xs, n, _, rfl, hl, hlen, hf⟩ := DataW.trod_struct ht h
  match xs, hlen with
  | [y0, y1, y2, y3], _ => exact ⟨y0, y1, y2, y3, n, by simp, hl, by simpa using hf 0 f0 rfl, by simpa using hf 1 f1 rfl, by simpa using hf 2 f2 rfl, by simpa using hf 3 f3 rfl⟩

theorem act_under : ∃ f0 f1 f2 f3 : Field, Try.prog.underlying 27 = some (.struct #[f0, f1, f2, f3]) ∧ f0.type = 3 ∧ f0.offset = 0 ∧ f1.type = 3 ∧ f1.offset = 1 ∧ f2.type = 3 ∧ f2.offset = 2 ∧ f3.type = 9 ∧ f3.offset = 3 :=
  ⟨_, _, _, _, Try.underlying27, rfl, rfl, rfl, rfl, rfl, rfl, rfl, rfl⟩

theorem arg_ms {H : Type} {enc : TypeId × Value → H} {W : World} {a0 : Option Addr} {len cap : Nat} {d : DataW H} {p : List MemPlace}
    (h : DataW.Trod enc Try.prog W 0 (fun _ => true) true 22 (.slice a0 len cap) d p) :
    ∃ l : List (Int × Int × Int × ByteArray), l.length = len ∧ ArgMs W.heap.size W (.slice a0 l.length cap) l ∧ ∀ x ∈ l, -9223372036854775808 ≤ x.2.1 ∧ x.2.1 ≤ 9223372036854775807 := by
  obtain ⟨fuel, hf⟩ := h
  obtain ⟨f0, f1, f2, f3, hu, t0, o0, t1, o1, t2, o2, t3, o3⟩ := act_under
  have hc3 : Try.prog.cellsOf 27 = 4 := by kernel_rfl
  have hc1 : Try.prog.cellsOf 3 = 1 := by kernel_rfl
  have hcs1 : Try.prog.cellsOf 9 = 1 := by kernel_rfl
  rcases DataW.trod_slice Try.underlying22 hf with ⟨hcs, _⟩ | ⟨a, len', cap', elems, rest, n, _, hcs, _, _, hlc, _, hel, hcell, _⟩
  · simp [Value.cells] at hcs
    obtain ⟨rfl, rfl, rfl⟩ := hcs
    exact ⟨[], rfl, ⟨none, 0, rfl, fun i x hx => by simp at hx⟩, fun _ h => by cases h⟩
  · simp [Value.cells] at hcs
    obtain ⟨rfl, rfl, rfl⟩ := hcs
    have each : ∀ i, ∃ x : Int × Int × Int × ByteArray, i < len → W.cell? (a.add (i * 4)) = some (.int .i64 x.1) ∧ W.cell? ((a.add (i * 4)).add 1) = some (.int .i64 x.2.1) ∧ W.cell? ((a.add (i * 4)).add 2) = some (.int .i64 x.2.2.1) ∧ W.cell? ((a.add (i * 4)).add 3) = some (.string x.2.2.2) ∧ (-9223372036854775808 ≤ x.2.1 ∧ x.2.1 ≤ 9223372036854775807) := by
      intro i
      by_cases hi : i < len
      · have h1 := hcell i hi
        rw [List.getElem?_eq_getElem (by omega), hc3, Option.bind_eq_some_iff] at h1
        obtain ⟨cs, hcs, hd⟩ := h1
        obtain ⟨_, hl3, hc⟩ := World.cells?_some hcs
        obtain ⟨y0, y1, y2, y3, m, _, _, g0, g1, g2, g3⟩ := trod_struct4 hu hd
        rw [t0, o0, hc1] at g0
        rw [t1, o1, hc1] at g1
        rw [t2, o2, hc1] at g2
        rw [t3, o3, hcs1] at g3
        obtain ⟨z0, e0, _, _⟩ := DataW.trod_int Try.underlying3 g0
        obtain ⟨z1, e1, _, w1⟩ := DataW.trod_int Try.underlying3 g1
        obtain ⟨z2, e2, _, _⟩ := DataW.trod_int Try.underlying3 g2
        obtain ⟨z3, e3, _, _⟩ := DataW.trod_string Try.underlying9 g3
        match cs, hl3, hc, e0, e1, e2, e3 with
        | [c0, c1, c2, c3], _, hc, e0, e1, e2, e3 =>
          refine ⟨(z0, z1, z2, z3), fun _ => ⟨?_, ?_, ?_, ?_, range_i64 w1⟩⟩
          · have := hc 0 (by omega)
            simp at e0
            simpa [Addr.add, e0] using this
          · have := hc 1 (by omega)
            simp at e1
            rw [this]
            simp [e1]
          · have := hc 2 (by omega)
            simp at e2
            rw [this]
            simp [e2]
          · have := hc 3 (by omega)
            simp at e3
            rw [this]
            simp [e3]
      · exact ⟨(0, 0, 0, ⟨#[]⟩), fun h => absurd h hi⟩
    refine ⟨(List.range len).map fun i => (each i).choose, by simp, ⟨some a, cap, by simp, ?_⟩, ?_⟩
    · intro i x hx
      rw [List.getElem?_map] at hx
      cases hr : (List.range len)[i]? with
      | none => rw [hr] at hx; cases hx
      | some q =>
        obtain ⟨hq1, hq2⟩ := List.getElem?_eq_some_iff.1 hr
        simp at hq1
        have hqi : q = i := by simpa using hq2.symm
        subst hqi
        rw [hr] at hx
        have hx' : (each q).choose = x := by simpa using hx
        obtain ⟨h0, h1, h2, h3, _⟩ := (each q).choose_spec hq1
        rw [hx'] at h0 h1 h2 h3
        have z0 : ∃ v, W.cell? (a.add (0 * 4)) = some (.int .i64 v) := by
          obtain ⟨xx, hxx⟩ := each 0
          exact ⟨_, (hxx (by omega)).1⟩
        obtain ⟨ab, ao, ai⟩ := a
        obtain ⟨v0, z0⟩ := z0
        have hs : ai = none := by
          rw [Nat.zero_mul, Addr.add_zero'] at z0
          cases ai with
          | none => rfl
          | some n =>
            unfold World.cell? at z0
            split at z0
            · simp at z0
            · cases z0
        subst hs
        rw [Addr.add_lit] at h0
        rw [Addr.add_lit, Addr.add_lit] at h1 h2 h3
        exact ⟨ab, ao, rfl, World.block_lt_of_cell? W _ h0, h0, h1, h2, h3⟩
    · intro x hx
      obtain ⟨i, hi, rfl⟩ := List.mem_map.1 hx
      exact ((each i).choose_spec (by simpa using hi)).2.2.2.2

end Go.Proofs.Ytjgpoggbakanlaa
