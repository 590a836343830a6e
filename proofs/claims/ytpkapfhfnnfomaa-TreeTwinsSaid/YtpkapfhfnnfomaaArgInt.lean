/- A law's argument that is a row of whole numbers. -/
import Derived.Test.YtpkapfhfnnfomaaLift
import Derived.Test.YtpkapfhfnnfomaaMem
import Derived.ChangeSlices
namespace Go.Proofs.Ytpkapfhfnnfomaa
open Go.ChangeShapes Go.WideShapes Go.ChangeAt Go.RowKit

theorem arg_int {B : Nat} {w : World} {v : Value} {l : List Int} (h : ArgRow B w v (l.map (Value.int .i64))) {k : Nat} {x : Int} (hx : l[k]? = some x) :
    ∃ b o cap, v = .slice (some ⟨b, o, none⟩) l.length cap ∧ b < B ∧ w.cell? ⟨b, o + k, none⟩ = some (.int .i64 x) := by
  obtain ⟨so, cap, rfl, hc⟩ := h
  obtain ⟨b, o, rfl, hb, hcell⟩ := hc k (.int .i64 x) (by rw [List.getElem?_map, hx]; rfl)
  exact ⟨b, o, cap, by rw [List.length_map], hb, hcell⟩

theorem arg_ints {H : Type} {enc : TypeId × Value → H} {W : World} {a0 : Option Addr} {len cap : Nat} {d : DataW H} {p : List MemPlace}
    (h : DataW.Trod enc Try.prog W 0 (fun _ => true) true 33 (.slice a0 len cap) d p) :
    ∃ l : List Int, l.length = len ∧ ArgRow W.heap.size W (.slice a0 l.length cap) (l.map (Value.int .i64)) ∧ ∀ n ∈ l, -9223372036854775808 ≤ n ∧ n ≤ 9223372036854775807 := by
  obtain ⟨fuel, hf⟩ := h
  rcases open_ints Try.underlying33 Try.underlying3 (by kernel_rfl) hf with ⟨hcs, _⟩ | ⟨a, len', cap', zs, hcs, _, hlc, _, hzs, _, hcell, hwf⟩
  · simp [Value.cells] at hcs
    obtain ⟨rfl, rfl, rfl⟩ := hcs
    exact ⟨[], rfl, ArgRow.nil _ _, fun _ h => by cases h⟩
  · simp [Value.cells] at hcs
    obtain ⟨rfl, rfl, rfl⟩ := hcs
    simp only [if_true] at hzs
    have hlen : (zs.take len).length = len := by simp; omega
    refine ⟨zs.take len, hlen, ?_, fun n hn => range_i64 (hwf n (List.mem_of_mem_take hn))⟩
    rw [hlen]
    refine ArgRow.of_cells (by simpa using hlen) fun i x hx => ?_
    rw [List.getElem?_map] at hx
    cases hs : (zs.take len)[i]? with
    | none => rw [hs] at hx; cases hx
    | some s =>
      rw [hs] at hx
      obtain rfl : Value.int .i64 s = x := by simpa using hx
      have hi : i < len := by
        have := (List.getElem?_eq_some_iff.1 hs).1
        omega
      rw [hcell i (by omega)]
      rw [List.getElem?_take, if_pos hi] at hs
      simp [List.getD, hs]

end Go.Proofs.Ytpkapfhfnnfomaa
