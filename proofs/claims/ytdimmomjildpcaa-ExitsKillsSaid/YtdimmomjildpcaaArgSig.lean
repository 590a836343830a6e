/- A law's argument that is a signal; one that is a term. -/
import Derived.Test.YtdimmomjildpcaaArgTm
namespace Go.Proofs.Ytdimmomjildpcaa
open Go.ChangeShapes Go.WideShapes Go.ChangeAt Go.RowKit Go.Deep

section
variable {H : Type} {enc : TypeId × Value → H} {W : World}

theorem sig_under : ∃ f0 f1 f2 f3 f4 f5 f6 f7 : Field, Try.prog.underlying 27 = some (.struct #[f0, f1, f2, f3, f4, f5, f6, f7]) ∧ (f0.type = 3 ∧ f0.offset = 0) ∧ (f1.type = 3 ∧ f1.offset = 1) ∧ (f2.type = 3 ∧ f2.offset = 2) ∧ (f3.type = 3 ∧ f3.offset = 3) ∧ (f4.type = 3 ∧ f4.offset = 4) ∧ (f5.type = 4 ∧ f5.offset = 5) ∧ (f6.type = 9 ∧ f6.offset = 6) ∧ (f7.type = 25 ∧ f7.offset = 7) :=
  ⟨_, _, _, _, _, _, _, _, Try.underlying27, ⟨rfl, rfl⟩, ⟨rfl, rfl⟩, ⟨rfl, rfl⟩, ⟨rfl, rfl⟩, ⟨rfl, rfl⟩, ⟨rfl, rfl⟩, ⟨rfl, rfl⟩, ⟨rfl, rfl⟩⟩

set_option maxRecDepth 100000 in
/-- A law's argument that is a term. -/
theorem arg_tm {base : Nat} {v : Value} {d : DataW H} {p : List MemPlace} (hv : Value.okWide Try.prog W .any base 25 v) (h : DataW.Trod enc Try.prog W 0 (fun _ => true) true 25 v d p) :
    ∃ (t : Tm) (so : Option Addr) (cap : Nat), v = .agg #[.int .i64 t.kind, .int .i64 t.n, .float .f64 t.f, .string t.s, .slice so t.l.length cap] ∧ RowIn W false (fun k => k < W.heap.size) t.l so 0 ∧ okT t := by
  obtain ⟨f0, f1, f2, f3, f4, hu, _⟩ := term_under
  obtain ⟨ca, rfl, hca⟩ := okWide_struct hu hv
  obtain ⟨fuel, hf⟩ := h
  obtain ⟨t, so, cap, e, hr, hok, _⟩ := term_arg (fun n _ cs x h => row_arg n cs x h) hf
  refine ⟨t, so, cap, ?_, hr, hok⟩
  obtain ⟨cl⟩ := ca
  simp [Value.cells] at e
  rw [e]

set_option maxRecDepth 100000 in
/-- A law's argument that is a signal. -/
theorem arg_sig {base : Nat} {v : Value} {d : DataW H} {p : List MemPlace} (hv : Value.okWide Try.prog W .any base 27 v) (h : DataW.Trod enc Try.prog W 0 (fun _ => true) true 27 v d p) :
    ∃ (fr tt kd id rf : Int) (ln : Bool) (nm : ByteArray) (t : Tm) (so : Option Addr) (cap : Nat), v = .agg #[.int .i64 fr, .int .i64 tt, .int .i64 kd, .int .i64 id, .int .i64 rf, .bool ln, .string nm, .int .i64 t.kind, .int .i64 t.n, .float .f64 t.f, .string t.s, .slice so t.l.length cap] ∧
      RowIn W false (fun k => k < W.heap.size) t.l so 0 ∧ okT t := by
  obtain ⟨f0, f1, f2, f3, f4, f5, f6, f7, hu, ⟨t0, o0⟩, ⟨t1, o1⟩, ⟨t2, o2⟩, ⟨t3, o3⟩, ⟨t4, o4⟩, ⟨t5, o5⟩, ⟨t6, o6⟩, ⟨t7, o7⟩⟩ := sig_under
  have hc12 : Try.prog.cellsOf 27 = 12 := by kernel_rfl
  have hci : Try.prog.cellsOf 3 = 1 := by kernel_rfl
  have hcb : Try.prog.cellsOf 4 = 1 := by kernel_rfl
  have hcs : Try.prog.cellsOf 9 = 1 := by kernel_rfl
  have hct : Try.prog.cellsOf 25 = 5 := by kernel_rfl
  obtain ⟨ca, rfl, hca⟩ := okWide_struct hu hv
  obtain ⟨fuel, hf⟩ := h
  obtain ⟨xs, n, rfl, _, hl, hlen, hf⟩ := DataW.trod_struct hu hf
  rw [hc12] at hl
  match xs, hlen with
  | [y0, y1, y2, y3, y4, y5, y6, y7], _ =>
    have g0 := hf 0 f0 rfl
    have g1 := hf 1 f1 rfl
    have g2 := hf 2 f2 rfl
    have g3 := hf 3 f3 rfl
    have g4 := hf 4 f4 rfl
    have g5 := hf 5 f5 rfl
    have g6 := hf 6 f6 rfl
    have g7 := hf 7 f7 rfl
    rw [t0, o0, hci] at g0
    rw [t1, o1, hci] at g1
    rw [t2, o2, hci] at g2
    rw [t3, o3, hci] at g3
    rw [t4, o4, hci] at g4
    rw [t5, o5, hcb] at g5
    rw [t6, o6, hcs] at g6
    rw [t7, o7, hct] at g7
    obtain ⟨z0, e0, _, _⟩ := DataW.trod_int Try.underlying3 g0
    obtain ⟨z1, e1, _, _⟩ := DataW.trod_int Try.underlying3 g1
    obtain ⟨z2, e2, _, _⟩ := DataW.trod_int Try.underlying3 g2
    obtain ⟨z3, e3, _, _⟩ := DataW.trod_int Try.underlying3 g3
    obtain ⟨z4, e4, _, _⟩ := DataW.trod_int Try.underlying3 g4
    obtain ⟨z5, e5, _⟩ := DataW.trod_bool Try.underlying4 g5
    obtain ⟨z6, e6, _, _⟩ := DataW.trod_string Try.underlying9 g6
    obtain ⟨t, so, cap, e7, hr, hok, _⟩ := term_arg (fun n _ cs x h => row_arg n cs x h) g7
    obtain ⟨cl⟩ := ca
    match cl, hca, e0, e1, e2, e3, e4, e5, e6, e7 with
    | [c0, c1, c2, c3, c4, c5, c6, c7, c8, c9, c10, c11], _, e0, e1, e2, e3, e4, e5, e6, e7 =>
      simp [Value.cells] at e0 e1 e2 e3 e4 e5 e6 e7
      obtain ⟨e70, e71, e72, e73, e74⟩ := e7
      subst e0 e1 e2 e3 e4 e5 e6 e70 e71 e72 e73 e74
      exact ⟨z0, z1, z2, z3, z4, z5, z6, t, so, cap, rfl, hr, hok⟩
end

end Go.Proofs.Ytdimmomjildpcaa
