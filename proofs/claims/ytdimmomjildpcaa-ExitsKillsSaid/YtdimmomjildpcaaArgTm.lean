/- A law's argument that is a row of terms. -/
import Derived.Test.YtdimmomjildpcaaLift
import Derived.Test.YtdimmomjildpcaaTmWalk
import Derived.Deep.Strs
namespace Go.Proofs.Ytdimmomjildpcaa
open Go.ChangeShapes Go.WideShapes Go.ChangeAt Go.RowKit Go.Deep

section
variable {H : Type} {enc : TypeId × Value → H} {W : World}

theorem trod_flt {t : TypeId} {fuel : Nat} {cs : List Value} {x : DataW H × List MemPlace} {k : FloatKind} (ht : Try.prog.underlying t = some (.float k)) (h : DataW.trod enc Try.prog W 0 (fun _ => true) true fuel t cs = some x) : ∃ b, cs = [.float k b] ∧ (Lit.float k b).wf = true := by
  cases fuel with
  | zero => simp [DataW.trod] at h
  | succ n =>
    unfold DataW.trod at h
    rw [ht] at h
    split at h <;> simp_all

theorem term_under : ∃ f0 f1 f2 f3 f4 : Field, Try.prog.underlying 25 = some (.struct #[f0, f1, f2, f3, f4]) ∧ (f0.type = 3 ∧ f0.offset = 0) ∧ (f1.type = 2 ∧ f1.offset = 1) ∧ (f2.type = 22 ∧ f2.offset = 2) ∧ (f3.type = 9 ∧ f3.offset = 3) ∧ (f4.type = 23 ∧ f4.offset = 4) :=
  ⟨_, _, _, _, _, Try.underlying25, ⟨rfl, rfl⟩, ⟨rfl, rfl⟩, ⟨rfl, rfl⟩, ⟨rfl, rfl⟩, ⟨rfl, rfl⟩⟩

/-- What a row of an argument is; N: the reading's bulk. -/
def RowArg (W : World) (cs : List Value) (N : Nat) : Prop := ∃ (l : List Tm) (so : Option Addr) (cap : Nat), cs = [.slice so l.length cap] ∧ RowIn W false (fun k => k < W.heap.size) l so 0 ∧ okL l ∧ cntL l ≤ N

/-- What a term of an argument is. -/
def TermArg (W : World) (cs : List Value) (N : Nat) : Prop := ∃ (t : Tm) (so : Option Addr) (cap : Nat), cs = [.int .i64 t.kind, .int .i64 t.n, .float .f64 t.f, .string t.s, .slice so t.l.length cap] ∧ RowIn W false (fun k => k < W.heap.size) t.l so 0 ∧ okT t ∧ cntT t ≤ N

theorem bulk_pos (d : DataW H) : 1 ≤ Rows.uptoBulk d := by
  cases d with
  | lit l => cases l <;> simp [Rows.uptoBulk]
  | _ => simp [Rows.uptoBulk]

theorem cnt_sum : ∀ (l : List Tm) (elems : List (DataW H × List MemPlace)), l.length = elems.length → (∀ (i : Nat) (x : Tm) (y : DataW H × List MemPlace), l[i]? = some x → elems[i]? = some y → cntT x ≤ Rows.uptoBulk y.1) → cntL l ≤ Rows.uptoBulkAll (elems.map (·.1))
  | [], _, _, _ => by simp [cntL]
  | x :: xs, [], h, _ => by simp at h
  | x :: xs, y :: ys, h, hh => by
    have h1 := hh 0 x y rfl rfl
    have h2 := cnt_sum xs ys (by simpa using h) (fun i a b ha hb => hh (i + 1) a b (by simpa using ha) (by simpa using hb))
    simp only [cntL, List.map_cons, Rows.uptoBulkAll]
    omega

theorem term_arg {fuel : Nat} {cs : List Value} {x : DataW H × List MemPlace} (ih : ∀ n, n < fuel → ∀ cs (x : DataW H × List MemPlace), DataW.trod enc Try.prog W 0 (fun _ => true) true n 23 cs = some x → RowArg W cs (Rows.uptoBulk x.1))
    (h : DataW.trod enc Try.prog W 0 (fun _ => true) true fuel 25 cs = some x) : TermArg W cs (Rows.uptoBulk x.1) := by
  obtain ⟨f0, f1, f2, f3, f4, hu, ⟨t0, o0⟩, ⟨t1, o1⟩, ⟨t2, o2⟩, ⟨t3, o3⟩, ⟨t4, o4⟩⟩ := term_under
  have hc5 : Try.prog.cellsOf 25 = 5 := by kernel_rfl
  have hc0 : Try.prog.cellsOf 3 = 1 := by kernel_rfl
  have hc1 : Try.prog.cellsOf 2 = 1 := by kernel_rfl
  have hc2 : Try.prog.cellsOf 22 = 1 := by kernel_rfl
  have hc3 : Try.prog.cellsOf 9 = 1 := by kernel_rfl
  have hc4 : Try.prog.cellsOf 23 = 1 := by kernel_rfl
  obtain ⟨xs, n, rfl, rfl, hl, hlen, hf⟩ := DataW.trod_struct hu h
  rw [hc5] at hl
  match xs, hlen with
  | [y0, y1, y2, y3, y4], _ =>
    have g0 := hf 0 f0 rfl
    have g1 := hf 1 f1 rfl
    have g2 := hf 2 f2 rfl
    have g3 := hf 3 f3 rfl
    have g4 := hf 4 f4 rfl
    rw [t0, o0, hc0] at g0
    rw [t1, o1, hc1] at g1
    rw [t2, o2, hc2] at g2
    rw [t3, o3, hc3] at g3
    rw [t4, o4, hc4] at g4
    obtain ⟨z0, e0, _, _⟩ := DataW.trod_int Try.underlying3 g0
    obtain ⟨z1, e1, _, _⟩ := DataW.trod_int Try.underlying2 g1
    obtain ⟨z2, e2, w2⟩ := trod_flt Try.underlying22 g2
    obtain ⟨z3, e3, _, _⟩ := DataW.trod_string Try.underlying9 g3
    obtain ⟨l, so, cap, e4, hrow, hok, hcn⟩ := ih n (Nat.lt_succ_self n) _ _ g4
    match cs, hl, e0, e1, e2, e3, e4 with
    | [c0, c1, c2, c3, c4], _, e0, e1, e2, e3, e4 =>
      simp at e0 e1 e2 e3 e4
      subst e0 e1 e2 e3 e4
      refine ⟨.mk z0 z1 z2 z3 l, so, cap, rfl, hrow, ?_, ?_⟩
      · unfold okT
        refine ⟨?_, hok⟩
        simpa [Lit.wf] using w2
      · simp only [cntT, List.map_cons, List.map_nil, Rows.uptoBulk, Rows.uptoBulkAll]
        omega

theorem row_arg : ∀ (fuel : Nat) (cs : List Value) (x : DataW H × List MemPlace), DataW.trod enc Try.prog W 0 (fun _ => true) true fuel 23 cs = some x → RowArg W cs (Rows.uptoBulk x.1) := by
  intro fuel
  induction fuel using Nat.strongRecOn with
  | ind fuel ih =>
    intro cs x h
    have hc5 : Try.prog.cellsOf 25 = 5 := by kernel_rfl
    rcases DataW.trod_slice Try.underlying23 h with ⟨rfl, _⟩ | ⟨a, len, cap, elems, rest, n, hn, rfl, rfl, _, hlc, _, hel, hcell, _⟩
    · exact ⟨[], none, 0, rfl, (by unfold RowIn; trivial), (by unfold okL; trivial), by simp [cntL]⟩
    · have each : ∀ i, ∃ (t : Tm) (so : Option Addr) (cap : Nat), i < len → (∀ j, j < 5 → W.cell? ((a.add (i * 5)).add j) = [Value.int .i64 t.kind, .int .i64 t.n, .float .f64 t.f, .string t.s, .slice so t.l.length cap][j]?) ∧ RowIn W false (fun k => k < W.heap.size) t.l so 0 ∧ okT t ∧ ∀ y, elems[i]? = some y → cntT t ≤ Rows.uptoBulk y.1 := by
        intro i
        by_cases hi : i < len
        · have h1 := hcell i hi
          rw [List.getElem?_eq_getElem (by omega), hc5, Option.bind_eq_some_iff] at h1
          obtain ⟨cs, hcs, hd⟩ := h1
          obtain ⟨_, hl3, hc⟩ := World.cells?_some hcs
          obtain ⟨t, so, cap', rfl, hr, hok, hcn⟩ := term_arg (fun m hm => ih m (by omega)) hd
          refine ⟨t, so, cap', fun _ => ⟨hc, hr, hok, fun y hy => ?_⟩⟩
          rw [List.getElem?_eq_getElem (by omega)] at hy
          rw [← Option.some.inj hy]
          exact hcn
        · exact ⟨.mk 0 0 0 ⟨#[]⟩ [], none, 0, fun h => absurd h hi⟩
      have hlen : ((List.range len).map fun i => (each i).choose).length = len := by simp
      have hget : ∀ (j : Nat) (x : Tm), ((List.range len).map fun i => (each i).choose)[j]? = some x → j < len ∧ (each j).choose = x := by
        intro j x hx
        rw [List.getElem?_map] at hx
        cases hr : (List.range len)[j]? with
        | none => rw [hr] at hx; cases hx
        | some q =>
          obtain ⟨hq1, hq2⟩ := List.getElem?_eq_some_iff.1 hr
          simp at hq1
          have hqi : q = j := by simpa using hq2.symm
          subst hqi
          rw [hr] at hx
          exact ⟨hq1, by simpa using hx⟩
      refine ⟨(List.range len).map fun i => (each i).choose, some a, cap, by rw [hlen], RowIn.of_get fun j x hx => ?_, ?_, ?_⟩
      · obtain ⟨hj, rfl⟩ := hget j x hx
        obtain ⟨so, cap', hsp⟩ := (each j).choose_spec
        obtain ⟨hc, hr, _, _⟩ := hsp hj
        generalize (each j).choose = t at hc hr ⊢
        have z0 : ∃ v, W.cell? ((a.add (0 * 5)).add 0) = some v := by
          obtain ⟨_, _, _, hsp0⟩ := each 0
          exact ⟨_, (hsp0 (by omega)).1 0 (by decide)⟩
        obtain ⟨v0, z0⟩ := z0
        obtain ⟨ab, ao, ai⟩ := a
        have hs : ai = none := by
          rw [Nat.zero_mul, Addr.add_zero', Addr.add_zero'] at z0
          cases ai with
          | none => rfl
          | some n =>
            unfold World.cell? at z0
            split at z0
            · simp at z0
            · cases z0
        subst hs
        have key : ∀ q, q < 5 → W.cell? ⟨ab, ao + j * 5 + q, none⟩ = [Value.int .i64 t.kind, .int .i64 t.n, .float .f64 t.f, .string t.s, .slice so t.l.length cap'][q]? := by
          intro q hq
          have := hc q hq
          rw [Addr.add_lit, Addr.add_lit] at this
          exact this
        have k0 := key 0 (by decide)
        rw [Nat.add_zero] at k0
        refine ⟨ab, ao, rfl, World.block_lt_of_cell? W _ k0, (fun h => by cases h), ?_⟩
        rw [Nat.zero_add]
        exact TmIn.mk' ⟨k0, key 1 (by decide), key 2 (by decide), key 3 (by decide), so, cap', key 4 (by decide), hr⟩
      · have hall : ∀ x ∈ (List.range len).map fun i => (each i).choose, okT x := by
          intro x hx
          obtain ⟨i, hi, rfl⟩ := List.mem_map.1 hx
          obtain ⟨so, cap', hsp⟩ := (each i).choose_spec
          exact (hsp (by simpa using hi)).2.2.1
        generalize ((List.range len).map fun i => (each i).choose) = l at hall ⊢
        clear hlen hget
        induction l with
        | nil => unfold okL; trivial
        | cons y ys ihy =>
          unfold okL
          exact ⟨hall y (List.mem_cons_self), ihy (fun x hx => hall x (List.mem_cons_of_mem _ hx))⟩
      · have hs := cnt_sum ((List.range len).map fun i => (each i).choose) elems (by rw [hlen, hel]) (fun i x y hx hy => by
          obtain ⟨hi, rfl⟩ := hget i x hx
          obtain ⟨so, cap', hsp⟩ := (each i).choose_spec
          exact (hsp hi).2.2.2 y hy)
        simp only [Rows.uptoBulk]
        omega

theorem arg_terms {a0 : Option Addr} {len cap : Nat} {d : DataW H} {p : List MemPlace}
    (h : DataW.Trod enc Try.prog W 0 (fun _ => true) true 23 (.slice a0 len cap) d p) :
    ∃ l : List Tm, l.length = len ∧ RowIn W false (fun k => k < W.heap.size) l a0 0 ∧ okL l ∧ cntL l ≤ Rows.uptoBulk d := by
  obtain ⟨fuel, hf⟩ := h
  obtain ⟨l, so, cap', e, hr, hok, hcn⟩ := row_arg _ _ _ hf
  simp [Value.cells] at e
  obtain ⟨rfl, rfl, rfl⟩ := e
  exact ⟨l, rfl, hr, hok, hcn⟩
end

end Go.Proofs.Ytdimmomjildpcaa
