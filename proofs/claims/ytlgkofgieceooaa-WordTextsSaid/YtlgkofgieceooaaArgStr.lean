/- A law's argument that is a row of texts. -/
import Derived.Test.YtlgkofgieceooaaLift
import Derived.Test.YtlgkofgieceooaaRefAtoms
import Derived.SliceStrings
namespace Go.Proofs.Ytlgkofgieceooaa
open Go.ChangeShapes Go.WideShapes Go.ChangeAt Go.RowKit

theorem arg_str {B : Nat} {w : World} {v : Value} {l : List ByteArray} (h : ArgRow B w v (l.map Value.string)) {k : Nat} {x : ByteArray} (hx : l[k]? = some x) :
    ∃ b o cap, v = .slice (some ⟨b, o, none⟩) l.length cap ∧ b < B ∧ w.cell? ⟨b, o + k, none⟩ = some (.string x) := by
  obtain ⟨so, cap, rfl, hc⟩ := h
  obtain ⟨b, o, rfl, hb, hcell⟩ := hc k (.string x) (by rw [List.getElem?_map, hx]; rfl)
  exact ⟨b, o, cap, by rw [List.length_map], hb, hcell⟩

theorem arg_strings {H : Type} {enc : TypeId × Value → H} {W : World} {a0 : Option Addr} {len cap : Nat} {d : DataW H} {p : List MemPlace}
    (h : DataW.Trod enc Try.prog W 0 (fun _ => true) true 44 (.slice a0 len cap) d p) :
    ∃ l : List ByteArray, l.length = len ∧ ArgRow W.heap.size W (.slice a0 l.length cap) (l.map Value.string) := by
  obtain ⟨fuel, hf⟩ := h
  rcases open_strings Try.underlying44 Try.underlying9 (by kernel_rfl) hf with ⟨hcs, _⟩ | ⟨a, len', cap', ss, hcs, _, hlc, _, hss, _, hcell, _⟩
  · simp [Value.cells] at hcs
    obtain ⟨rfl, rfl, rfl⟩ := hcs
    exact ⟨[], rfl, ArgRow.nil _ _⟩
  · simp [Value.cells] at hcs
    obtain ⟨rfl, rfl, rfl⟩ := hcs
    simp only [if_true] at hss
    have hlen : (ss.take len).length = len := by simp; omega
    refine ⟨ss.take len, hlen, ?_⟩
    rw [hlen]
    refine ArgRow.of_cells (by simpa using hlen) fun i x hx => ?_
    obtain ⟨s, hs, rfl⟩ := strs_at hx
    have hi : i < len := by
      have := (List.getElem?_eq_some_iff.1 hs).1
      omega
    rw [hcell i (by omega)]
    rw [List.getElem?_take, if_pos hi] at hs
    simp [List.getD, hs]


end Go.Proofs.Ytlgkofgieceooaa
