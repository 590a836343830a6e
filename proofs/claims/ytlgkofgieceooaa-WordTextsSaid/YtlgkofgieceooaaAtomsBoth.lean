/- The program's and the document's tables of texts side by side. -/
import Derived.Test.YtlgkofgieceooaaRefAtoms
namespace Go.Proofs.Ytlgkofgieceooaa
open Go.RowKit

theorem AtomsAt.keep {F : Nat → Prop} {w w' : World} {b m : Nat} {sv : Value} {L : List ByteArray} (h : AtomsAt w b m sv L) (hM : Mod F w w') (hb : ¬ F b) (hm : ¬ F m) (hs : ∀ k, sv.ownBlock = some k → ¬ F k) : AtomsAt w' b m sv L := by
  obtain ⟨es, clock, h1, h2⟩ := h.map
  exact ⟨hM.keep h.blk hb, own_keep hM h.row hs, ⟨es, clock, hM.keep h1 hm, h2⟩, h.nodup⟩

theorem RefAtomsAt.keep {F : Nat → Prop} {w w' : World} {b : Nat} {sv : Value} {L : List ByteArray} (h : RefAtomsAt w b sv L) (hM : Mod F w w') (hb : ¬ F b) (hs : ∀ k, sv.ownBlock = some k → ¬ F k) : RefAtomsAt w' b sv L :=
  ⟨hM.keep h.blk hb, own_keep hM h.row hs⟩

/-- Both tables, all their blocks from B on; what lies below B is as it was in W. -/
structure Both (B : Nat) (W w : World) (b m b2 : Nat) (T1 T2 : List ByteArray) : Prop where
  ex : ∃ sv sv2, AtomsAt w b m sv T1 ∧ RefAtomsAt w b2 sv2 T2 ∧ (∀ g, sv.ownBlock = some g → sv2.ownBlock ≠ some g ∧ B ≤ g) ∧ (∀ g, sv2.ownBlock = some g → B ≤ g)
  below : Below B W w
  hB : B ≤ w.heap.size
  l1 : B ≤ b
  l2 : B ≤ m
  l3 : B ≤ b2

theorem Both.drewN {B : Nat} {W w : World} {b m b2 : Nat} {T1 T2 : List ByteArray} (h : Both B W w b m b2 T1 T2) (n : Nat) : Both B W (w.drewN n) b m b2 T1 T2 := by
  obtain ⟨⟨sv, sv2, h1, h2, h3⟩, h4, h5, h6, h7, h8⟩ := h
  exact ⟨⟨sv, sv2, ⟨h1.blk, h1.row, h1.map, h1.nodup⟩, ⟨h2.blk, h2.row⟩, h3⟩, ⟨h4.os, h4.tape, h4.output, h4.size, h4.block⟩, h5, h6, h7, h8⟩

theorem Both.len {B : Nat} {W w : World} {b m b2 : Nat} {T1 T2 : List ByteArray} (h : Both B W w b m b2 T1 T2) : ∃ so sc, w.cell? ⟨b2, 0, none⟩ = some (.slice so T2.length sc) := by
  obtain ⟨⟨sv, sv2, h1, h2, h3⟩, _⟩ := h
  obtain ⟨so, sc, rfl⟩ := own_slice h2.row
  have c0 := cell_of_heap h2.blk 0
  exact ⟨so, sc, by simpa using c0⟩

theorem number_both {B : Nat} {W w : World} {b m b2 : Nat} {T1 T2 : List ByteArray} (h : Both B W w b m b2 T1 T2) (s : ByteArray) (hL : T1.length ≤ 1000000000) :
    Calls Try.prog 23 #[.pointer (some ⟨b, 0, none⟩), .string s] w fun e w' => e = .returned (.tuple #[.int .i64 (numR T1 s).1, .int .i64 (numR T1 s).2]) ∧ Both B W w' b m b2 (addT T1 s) T2 := by
  obtain ⟨⟨sv, sv2, h1, h2, h3, h4⟩, h5, h6, h7, h8, h9⟩ := h
  refine (number_any s w h1 hL).mono ?_
  rintro e w' ⟨rfl, sv', hA, hM, hF⟩
  obtain ⟨es, clock, hmap, _⟩ := h1.map
  refine ⟨rfl, ⟨sv', sv2, hA, ?_, ?_, h4⟩, ?_, Nat.le_trans h6 hM.size, h7, h8, h9⟩
  · refine h2.keep hM ?_ ?_
    · rintro (e | e | e)
      · have := h2.blk
        rw [e, h1.blk] at this
        injection this with this
        injection this with t1 t2
        exact absurd t2 (by decide)
      · have := h2.blk
        rw [e, hmap] at this
        cases this
      · exact own_ne_elem h1.row h2.blk (by decide) e.symm
    · rintro k hk (e | e | e)
      · exact own_ne_elem h2.row (e ▸ h1.blk) (by decide) hk
      · exact own_ne_map h2.row (e ▸ hmap) hk
      · exact (h3 k e.symm).1 hk
  · intro g hg
    rcases hF with hF | hF
    · exact h3 g (hF ▸ hg)
    · have hge := hF g hg
      refine ⟨fun e => ?_, by omega⟩
      obtain ⟨cur, hc⟩ := own_blk h2.row e
      have := heap_lt hc
      omega
  · refine h5.trans (hM.below h6 ?_)
    rintro k (e | e | e)
    · omega
    · omega
    · exact (h3 k e.symm).2

theorem refNumber_both {B : Nat} {W w : World} {b m b2 : Nat} {T1 T2 : List ByteArray} (h : Both B W w b m b2 T1 T2) (s : ByteArray) (hL : T2.length ≤ 1000000000) :
    Calls Try.prog 24 #[.pointer (some ⟨b2, 0, none⟩), .string s] w fun e w' => e = .returned (.tuple #[.int .i64 (numR T2 s).1, .int .i64 (numR T2 s).2]) ∧ Both B W w' b m b2 T1 (addT T2 s) := by
  obtain ⟨⟨sv, sv2, h1, h2, h3, h4⟩, h5, h6, h7, h8, h9⟩ := h
  refine (refNumber_any s w h2 hL).mono ?_
  rintro e w' ⟨rfl, sv', hA, hM, hF⟩
  obtain ⟨es, clock, hmap, _⟩ := h1.map
  refine ⟨rfl, ⟨sv, sv', ?_, hA, ?_, ?_⟩, ?_, Nat.le_trans h6 hM.size, h7, h8, h9⟩
  · refine h1.keep hM ?_ ?_ ?_
    · rintro (e | e)
      · have := h2.blk
        rw [← e, h1.blk] at this
        injection this with this
        injection this with t1 t2
        exact absurd t2 (by decide)
      · exact own_ne_elem h2.row h1.blk (by decide) e.symm
    · rintro (e | e)
      · have := h2.blk
        rw [← e, hmap] at this
        cases this
      · exact own_ne_map h2.row hmap e.symm
    · rintro k hk (e | e)
      · exact own_ne_elem h1.row (e ▸ h2.blk) (by decide) hk
      · exact (h3 k hk).1 e.symm
  · intro g hg
    refine ⟨?_, (h3 g hg).2⟩
    rcases hF with hF | hF
    · rw [hF]
      exact (h3 g hg).1
    · intro e
      have hge := hF g e
      obtain ⟨cur, hc⟩ := own_blk h1.row hg
      have := heap_lt hc
      omega
  · intro g hg
    rcases hF with hF | hF
    · exact h4 g (hF ▸ hg)
    · have := hF g hg
      omega
  · refine h5.trans (hM.below h6 ?_)
    rintro k (e | e)
    · omega
    · exact h4 k e.symm

theorem text_both {B : Nat} {W w : World} {b m b2 : Nat} {T1 T2 : List ByteArray} (h : Both B W w b m b2 T1 T2) (n : Int) :
    Calls Try.prog 26 #[.pointer (some ⟨b, 0, none⟩), .int .i64 n] w fun e w' => e = .returned (.tuple #[.string (textR T1 n).1, .bool (textR T1 n).2]) ∧ w' = w := by
  obtain ⟨⟨sv, sv2, h1, h2, _⟩, _⟩ := h
  exact text_any n w h1

theorem refText_both {B : Nat} {W w : World} {b m b2 : Nat} {T1 T2 : List ByteArray} (h : Both B W w b m b2 T1 T2) (n : Int) :
    Calls Try.prog 27 #[.pointer (some ⟨b2, 0, none⟩), .int .i64 n] w fun e w' => e = .returned (.tuple #[.string (textR T2 n).1, .bool (textR T2 n).2]) ∧ w' = w := by
  obtain ⟨⟨sv, sv2, h1, h2, _⟩, _⟩ := h
  exact refText_any n w h2

theorem len_both {B : Nat} {W w : World} {b m b2 : Nat} {T1 T2 : List ByteArray} (h : Both B W w b m b2 T1 T2) :
    Calls Try.prog 25 #[.pointer (some ⟨b, 0, none⟩)] w fun e w' => e = .returned (.int .i64 T1.length) ∧ w' = w := by
  obtain ⟨⟨sv, sv2, h1, h2, _⟩, _⟩ := h
  exact len_any w h1

theorem addT_len (T : List ByteArray) (s : ByteArray) : (addT T s).length ≤ T.length + 1 := by
  unfold addT
  split
  · omega
  · split
    · omega
    · simp

end Go.Proofs.Ytlgkofgieceooaa
