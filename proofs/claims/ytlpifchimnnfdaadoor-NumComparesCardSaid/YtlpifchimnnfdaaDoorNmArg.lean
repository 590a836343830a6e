/- A law's argument that is a term, whatever it holds. -/
import Derived.Test.YtlpifchimnnfdaaDoorNmRow
import Derived.Deep.Strs
namespace Go.Proofs.YtlpifchimnnfdaaDoor
open Go.ChangeShapes Go.WideShapes Go.ChangeAt Go.RowKit Go.Deep

section
variable {H : Type} {enc : TypeId × Value → H} {W : World}

theorem trod_flt {t : TypeId} {fuel : Nat} {cs : List Value} {x : DataW H × List MemPlace} {k : FloatKind} (ht : Tryd.prog.underlying t = some (.float k)) (h : DataW.trod enc Tryd.prog W 0 (fun _ => true) true fuel t cs = some x) : ∃ b, cs = [.float k b] ∧ (Lit.float k b).wf = true := by
  cases fuel with
  | zero => simp [DataW.trod] at h
  | succ n =>
    unfold DataW.trod at h
    rw [ht] at h
    split at h <;> simp_all

theorem trod_sl {t e : TypeId} {fuel : Nat} {cs : List Value} {x : DataW H × List MemPlace} (ht : Tryd.prog.underlying t = some (.slice e)) (h : DataW.trod enc Tryd.prog W 0 (fun _ => true) true fuel t cs = some x) : ∃ a m c, cs = [.slice a m c] := by
  rcases DataW.trod_slice ht h with ⟨rfl, _⟩ | ⟨a, len, cap, elems, rest, n, hn, rfl, rfl, _⟩
  · exact ⟨_, _, _, rfl⟩
  · exact ⟨_, _, _, rfl⟩

theorem term_under : ∃ f0 f1 f2 f3 f4 : Field, Tryd.prog.underlying 27 = some (.struct #[f0, f1, f2, f3, f4]) ∧ (f0.type = 3 ∧ f0.offset = 0) ∧ (f1.type = 2 ∧ f1.offset = 1) ∧ (f2.type = 24 ∧ f2.offset = 2) ∧ (f3.type = 9 ∧ f3.offset = 3) ∧ (f4.type = 25 ∧ f4.offset = 4) :=
  ⟨_, _, _, _, _, Tryd.underlying27, ⟨rfl, rfl⟩, ⟨rfl, rfl⟩, ⟨rfl, rfl⟩, ⟨rfl, rfl⟩, ⟨rfl, rfl⟩⟩

set_option maxRecDepth 100000 in
/-- A law's argument that is a term. -/
theorem arg_term {base : Nat} {v : Value} {d : DataW H} {p : List MemPlace} (hv : Value.okWide Tryd.prog W .any base 27 v) (h : DataW.Trod enc Tryd.prog W 0 (fun _ => true) true 27 v d p) :
    ∃ (k n : Int) (f : Nat) (s : ByteArray) (so : Option Addr) (m cap : Nat), v = .agg #[.int .i64 k, .int .i64 n, .float .f64 f, .string s, .slice so m cap] ∧ f < 18446744073709551616 ∧ (-9223372036854775808 ≤ k ∧ k ≤ 9223372036854775807) ∧ (-9223372036854775808 ≤ n ∧ n ≤ 9223372036854775807) := by
  obtain ⟨f0, f1, f2, f3, f4, hu, ⟨t0, o0⟩, ⟨t1, o1⟩, ⟨t2, o2⟩, ⟨t3, o3⟩, ⟨t4, o4⟩⟩ := term_under
  have hc5 : Tryd.prog.cellsOf 27 = 5 := by kernel_rfl
  have hc0 : Tryd.prog.cellsOf 3 = 1 := by kernel_rfl
  have hc1 : Tryd.prog.cellsOf 2 = 1 := by kernel_rfl
  have hc2 : Tryd.prog.cellsOf 24 = 1 := by kernel_rfl
  have hc3 : Tryd.prog.cellsOf 9 = 1 := by kernel_rfl
  have hc4 : Tryd.prog.cellsOf 25 = 1 := by kernel_rfl
  obtain ⟨ca, rfl, hca⟩ := okWide_struct hu hv
  obtain ⟨fuel, hf⟩ := h
  obtain ⟨xs, n, rfl, _, hl, hlen, hf⟩ := DataW.trod_struct hu hf
  rw [hc5] at hl
  match xs, hlen with
  | [y0, y1, y2, y3, y4], _ =>
    have g0 := hf 0 f0 rfl
    have g1 := hf 1 f1 rfl
    have g2 := hf 2 f2 rfl
    have g3 := hf 3 f3 rfl
    have g4 := hf 4 f4 rfl
    rw [t0, o0, hc0] at g0
    rw [t1, o1, hc1] at g1
    rw [t2, o2, hc2] at g2
    rw [t3, o3, hc3] at g3
    rw [t4, o4, hc4] at g4
    obtain ⟨z0, e0, _, r0⟩ := DataW.trod_int Tryd.underlying3 g0
    obtain ⟨z1, e1, _, r1⟩ := DataW.trod_int Tryd.underlying2 g1
    obtain ⟨z2, e2, w2⟩ := trod_flt Tryd.underlying24 g2
    obtain ⟨z3, e3, _, _⟩ := DataW.trod_string Tryd.underlying9 g3
    obtain ⟨z4, m, c, e4⟩ := trod_sl Tryd.underlying25 g4
    obtain ⟨cl⟩ := ca
    match cl, hca, e0, e1, e2, e3, e4 with
    | [c0, c1, c2, c3, c4], _, e0, e1, e2, e3, e4 =>
      simp [Value.cells] at e0 e1 e2 e3 e4
      subst e0 e1 e2 e3 e4
      refine ⟨z0, z1, z2, z3, z4, m, c, rfl, ?_, ?_, ?_⟩
      · simpa [Lit.wf] using w2
      · exact range_i64 r0
      · exact range_i64 r1
end

end Go.Proofs.YtlpifchimnnfdaaDoor
