/- Walks of the program's Atoms. -/
import Derived.Test.YtlgkofgieceooaaAtoms
import Derived.ProofKit
namespace Go.Proofs.Ytlgkofgieceooaa
open Go.RowKit

/-- What Number tells, and what the table holds behind it. -/
def numR (L : List ByteArray) (s : ByteArray) : Int × Int := if 64 < s.size then (0, 3) else ((if s ∈ L then ((L.idxOf s : Nat) : Int) else ((L.length : Nat) : Int)), 0)
def addT (L : List ByteArray) (s : ByteArray) : List ByteArray := if 64 < s.size then L else if s ∈ L then L else L ++ [s]

theorem info_string : (Try.prog.info? 9).map (fun i => (i.zero, i.size, i.bytes)) = some (some (.string ⟨#[]⟩), 1, 16) := by kernel_rfl

set_option maxHeartbeats 1000000 in
theorem number_long {b : Nat} {L : List ByteArray} (s : ByteArray) (w : World) (h : 64 < s.size) :
    Calls Try.prog 23 #[.pointer (some ⟨b, 0, none⟩), .string s] w fun e w' => e = .returned (.tuple #[.int .i64 (numR L s).1, .int .i64 (numR L s).2]) ∧ w' = w := by
  have hR : numR L s = (0, 3) := by unfold numR; rw [if_pos h]
  rw [hR]
  clear hR
  go_enter Try.func23, Try.ntmps23
  go_wp2_with fail
  go_ret2
  exact ⟨rfl, rfl⟩

set_option maxHeartbeats 1000000 in
theorem number_old {b m : Nat} {sv : Value} {L : List ByteArray} (s : ByteArray) (w : World) (ha : AtomsAt w b m sv L) (h : s.size ≤ 64) (hm : s ∈ L) :
    Calls Try.prog 23 #[.pointer (some ⟨b, 0, none⟩), .string s] w fun e w' => e = .returned (.tuple #[.int .i64 (numR L s).1, .int .i64 (numR L s).2]) ∧ w' = w := by
  have hR : numR L s = (((L.idxOf s : Nat) : Int), 0) := by unfold numR; rw [if_neg (by omega), if_pos hm]
  rw [hR]
  have hl := lookup_str ha s
  rw [if_pos hm, decide_eq_true hm] at hl
  have c0 := cell_of_heap ha.blk 0
  have c1 := cell_of_heap ha.blk 1
  simp only [List.getElem?_toArray, List.getElem?_cons_zero, List.getElem?_cons_succ] at c0 c1
  clear hR hm ha
  go_enter Try.func23, Try.ntmps23
  go_wp2_with fail
  go_ret2
  exact ⟨rfl, rfl⟩

set_option maxHeartbeats 1000000 in
theorem number_new {b m : Nat} {sv : Value} {L : List ByteArray} (s : ByteArray) (w : World) (ha : AtomsAt w b m sv L) (h : s.size ≤ 64) (hm : s ∉ L) (hL : L.length ≤ 1000000000) :
    Calls Try.prog 23 #[.pointer (some ⟨b, 0, none⟩), .string s] w fun e w' => e = .returned (.tuple #[.int .i64 (numR L s).1, .int .i64 (numR L s).2]) ∧
      ∃ sv', AtomsAt w' b m sv' (L ++ [s]) ∧ Mod (fun k => k = b ∨ k = m ∨ some k = sv.ownBlock) w w' ∧ (sv'.ownBlock = sv.ownBlock ∨ ∀ k, sv'.ownBlock = some k → w.heap.size ≤ k) := by
  have hR : numR L s = (((L.length : Nat) : Int), 0) := by unfold numR; rw [if_neg (by omega), if_neg hm]
  rw [hR]
  have hl := lookup_str ha s
  rw [if_neg hm, decide_eq_false hm] at hl
  have c0 := cell_of_heap ha.blk 0
  have c1 := cell_of_heap ha.blk 1
  simp only [List.getElem?_toArray, List.getElem?_cons_zero, List.getElem?_cons_succ] at c0 c1
  have hrow := ha.row
  have hblt := heap_lt ha.blk
  obtain ⟨i, hi, hz0, hz1, hz2⟩ := info_parts info_string
  have HA := Lib.hid ha
  have HM := Lib.hid hm
  obtain ⟨so, sc, rfl⟩ : ∃ so sc, sv = .slice so L.length sc := by
    rcases hrow.2 with ⟨rfl, h0⟩ | ⟨g, cap, cur, rfl, _⟩
    · exact ⟨none, 0, by rw [h0]⟩
    · exact ⟨_, _, rfl⟩
  clear hR hm ha
  go_enter Try.func23, Try.ntmps23
  go_wp2_with (at_builtin; refine wpList_app1 _ rfl _ _ 44 rfl 0 9 i (.string ⟨#[]⟩) 16 Try.underlying44 hi hz0 hz1 hz2 rfl _ _ _ rfl hrow (.string s) rfl rfl (by omega) (by omega) (by omega) ?_)
  intro g1 sc1 w1 hrow1 hmod1 hfr
  have ha := HA.out
  have hb0 : (Value.slice so L.length sc).ownBlock ≠ some b := own_ne_elem ha.row ha.blk (by decide)
  obtain ⟨es, clock, hmap, hes⟩ := ha.map
  have hm0 : (Value.slice so L.length sc).ownBlock ≠ some m := own_ne_map ha.row hmap
  have hbm : b ≠ m := by
    rintro rfl
    have := ha.blk
    rw [hmap] at this
    cases this
  have hblk1 := hmod1.keep ha.blk (fun h => hb0 h.symm)
  have hmap1 := hmod1.keep hmap (fun h => hm0 h.symm)
  have cc0 := cell_of_heap hblk1 0
  have cc1 := cell_of_heap hblk1 1
  have cf := free_of_heap hblk1 0
  simp only [List.getElem?_toArray, List.getElem?_cons_zero, List.getElem?_cons_succ] at cc0 cc1
  have hg1 : g1 ≠ b := fun e => own_ne_elem hrow1 hblk1 (by decide) (by rw [e]; rfl)
  have hmap2 : (w1.setCell ⟨b, 0, none⟩ (.slice (some ⟨g1, 0, none⟩) (L.length + 1) sc1)).heap[m]? = some (.map es clock) := by
    rw [Below.heap_setCell _ _ _ _ (fun e => hbm e.symm)]
    exact hmap1
  obtain ⟨w2, hup, hmod2, es2, clock2, hmap2, hes2⟩ := mapUpdate_str hmap2 hes s HM.out
  have hblk2 := heap_set (o := 0) hblk1 (.slice (some ⟨g1, 0, none⟩) (L.length + 1) sc1)
  have hblk3 := hmod2.keep hblk2 hbm
  have hrow2 : (w1.setCell ⟨b, 0, none⟩ (.slice (some ⟨g1, 0, none⟩) (L.length + 1) sc1)).ownsRow 0 9 1 (.slice (some ⟨g1, 0, none⟩) (L.length + 1) sc1) (L.length + 1) ((L ++ [s]).map Value.string) := by
    have := own_keep ((Mod.refl (fun k => k = b) w1).setCell (p := ⟨b, 0, none⟩) (.inl rfl) (.slice (some ⟨g1, 0, none⟩) (L.length + 1) sc1)) hrow1 (fun k hk e => hg1 ((Option.some.inj hk).trans e))
    simpa using this
  have hgm : g1 ≠ m := fun e => own_ne_map hrow1 hmap1 (by rw [e]; rfl)
  have hrow3 := own_keep hmod2 hrow2 (fun k hk e => hgm ((Option.some.inj hk).trans e))
  have hA : AtomsAt w2 b m (.slice (some ⟨g1, 0, none⟩) (L.length + 1) sc1) (L ++ [s]) := by
    refine ⟨?_, ?_, ⟨es2, clock2, hmap2, hes2⟩, ?_⟩
    · simpa using hblk3
    · simpa using hrow3
    · rw [List.nodup_append]
      exact ⟨ha.nodup, by simp, fun x hx y hy e => HM.out (by simp at hy; rw [← hy, ← e]; exact hx)⟩
  have hmod : Mod (fun k => k = b ∨ k = m ∨ some k = (Value.slice so L.length sc).ownBlock) w w2 := by
    refine ((hmod1.mono (fun _ _ h => .inr (.inr h))).setCell (p := ⟨b, 0, none⟩) (.inl (.inl rfl)) _).trans hmod2 (fun _ _ h => .inr (.inl h))
  have HR := Lib.hid (And.intro hA (And.intro hmod hfr))
  clear ha hblk1 hmap1 hmap hb0 hm0 hmod1 hrow1 hrow hes hes2 hmap2 hmod2 hA hmod hrow2 hrow3 hgm hblk2 hblk3 hfr
  go_wp2
  go_ret2
  refine ⟨rfl, _, HR.out.1, HR.out.2.1, ?_⟩
  rcases HR.out.2.2 with h | h
  · exact .inl h.symm
  · exact .inr fun k hk => by rw [← Option.some.inj hk]; exact h

end Go.Proofs.Ytlgkofgieceooaa
