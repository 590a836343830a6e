/- Atoms: the program's table of texts (a slice and a map), as it lies in memory. -/
import Derived.Test.YtlgkofgieceooaaMem
import Derived.Lib.Hide
import Derived.MapKept
import Derived.KernelRfl
namespace Go.Proofs.Ytlgkofgieceooaa
open Go.RowKit

/-- Block b is a table of the texts L, whose map is block m and whose slice is sv. -/
structure AtomsAt (w : World) (b m : Nat) (sv : Value) (L : List ByteArray) : Prop where
  blk : w.heap[b]? = some (.cells #[sv, .map (some m)] 62 (0, 0))
  row : w.ownsRow 0 9 1 sv L.length (L.map Value.string)
  map : ∃ es clock, w.heap[m]? = some (.map es clock) ∧ es.toList.map (fun e => (e.key, e.val)) = L.zipIdx.map (fun p => (Value.string p.1, Value.int .i64 (p.2 : Int)))
  nodup : L.Nodup

theorem findNow_str (s : ByteArray) : ∀ (L : List ByteArray) (es : List MapEntry) (i k : Nat), es.map (fun e => (e.key, e.val)) = (L.zipIdx k).map (fun p => (Value.string p.1, Value.int .i64 (p.2 : Int))) →
    Instr.findNow .string (.string s) es i = some (if s ∈ L then some (i + L.idxOf s, .int .i64 ((k + L.idxOf s : Nat) : Int)) else none) := by
  intro L
  induction L with
  | nil =>
    intro es i k h
    have : es = [] := by simpa using h
    subst this
    simp [Instr.findNow]
  | cons x L ih =>
    intro es i k h
    cases es with
    | nil => simp at h
    | cons e es =>
      simp only [List.zipIdx_cons, List.map_cons, List.cons.injEq, Prod.mk.injEq] at h
      obtain ⟨⟨hk, hv⟩, hr⟩ := h
      simp only [Instr.findNow, hk, Instr.sameNow]
      by_cases hx : s = x
      · subst hx
        simp [hv]
      · have hx' : (s == x) = false := by simpa using hx
        rw [hx']
        simp only []
        rw [ih es (i + 1) (k + 1) hr]
        by_cases hm : s ∈ L
        · have : (x == s) = false := by simpa using fun h => hx h.symm
          simp [hm, List.idxOf_cons, this]
          omega
        · simp [hm, hx]


theorem lookup_str {w : World} {b m : Nat} {sv : Value} {L : List ByteArray} (h : AtomsAt w b m sv L) (s : ByteArray) :
    (Instr.lookup 60 (.map (some m)) (.string s) true).run Try.prog w =
      .ok (.tuple #[.int .i64 (if s ∈ L then ((L.idxOf s : Nat) : Int) else 0), .bool (decide (s ∈ L))]) w := by
  obtain ⟨es, clock, hm, he⟩ := h.map
  have hf := findNow_str s L es.toList 0 0 he
  have hk : (Instr.checkKey es.isEmpty 10000 9 (.string s)).run Try.prog w = .ok () w := MapKept.run_checkKey (d := .string) Try.underlying9 (by simp [MapKept.IsKey]) _ _
  have hg : (getObj m).run Try.prog w = .ok (.map es clock) w := MapKept.run_getObj_map hm
  have hF := MapKept.run_findKey (w := w) Try.underlying9 hf
  have hz : (zeroValue 3).run Try.prog w = .ok (.int .i64 0) w := by kernel_rfl
  unfold Instr.lookup
  simp only [Sem.run_bind, run_underlying Try.underlying60, hg, hk, hF, Result.andThen, Sem.run_pure]
  by_cases hs : s ∈ L
  · simp [hs]
  · simp [hs, hz]

theorem mapUpdate_str {w : World} {m : Nat} {L : List ByteArray} {es : Array MapEntry} {clock : Nat} (hm : w.heap[m]? = some (.map es clock))
    (he : es.toList.map (fun e => (e.key, e.val)) = L.zipIdx.map (fun p => (Value.string p.1, Value.int .i64 (p.2 : Int)))) (s : ByteArray) (hs : s ∉ L) :
    ∃ w', (Instr.mapUpdate 60 (.map (some m)) (.string s) (.int .i64 (L.length : Nat))).run Try.prog w = .ok () w' ∧ Mod (fun k => k = m) w w' ∧
      ∃ es clock, w'.heap[m]? = some (.map es clock) ∧ es.toList.map (fun e => (e.key, e.val)) = (L ++ [s]).zipIdx.map (fun p => (Value.string p.1, Value.int .i64 (p.2 : Int))) := by
  have hf := findNow_str s L es.toList 0 0 he
  rw [if_neg hs] at hf
  have hk : (Instr.checkKey false 10000 9 (.string s)).run Try.prog w = .ok () w := MapKept.run_checkKey (d := .string) Try.underlying9 (by simp [MapKept.IsKey]) _ _
  have hg : (getObj m).run Try.prog w = .ok (.map es clock) w := MapKept.run_getObj_map hm
  have hF := MapKept.run_findKey (w := w) Try.underlying9 hf
  have hS := fun o => MapKept.run_setObj_map (P := Try.prog) o hm
  refine ⟨{ w with heap := w.heap.setIfInBounds m (.map (es.push { key := .string s, val := .int .i64 (L.length : Nat), born := clock }) (clock + 1)) }, ?_, ?_, es.push { key := .string s, val := .int .i64 (L.length : Nat), born := clock }, clock + 1, ?_, ?_⟩
  · unfold Instr.mapUpdate
    simp only [Sem.run_bind, run_underlying Try.underlying60, hg, hk, hF, Result.andThen, hS]
  · exact ⟨rfl, rfl, rfl, by simp, fun k hk hf => (MapKept.heap_set hm).2 k hf⟩
  · exact (MapKept.heap_set hm).1
  · simp [he, List.zipIdx_append]

end Go.Proofs.Ytlgkofgieceooaa
