/- 'known' of the word layer: the chapter's examples. -/
import Derived.Test.YtlgkofgieceooaaWordRef
import Derived.Test.YtlgkofgieceooaaAtomsWalk
namespace Go.Proofs.Ytlgkofgieceooaa
open Go.RowKit

set_option maxHeartbeats 1000000 in
theorem newAtoms_any (w : World) :
    Calls Try.prog 22 #[] w fun e w' => e = .returned (.pointer (some ⟨w.heap.size + 1, 0, none⟩)) ∧ AtomsAt w' (w.heap.size + 1) w.heap.size (.slice none 0 0) [] ∧ Mod (fun _ => False) w w' := by
  have hmm := @run_makeMap Try.prog
  go_enter Try.func22, Try.ntmps22
  go_wp2_with fail
  go_ret
  have hA : AtomsAt ((w.alloc (.map #[] 0)).alloc (.cells #[.slice none 0 0, .map (some w.heap.size)] 62)) (w.heap.size + 1) w.heap.size (.slice none 0 0) [] := by
    refine ⟨?_, World.ownsRow_nil _ _ _ _, ⟨#[], 0, ?_, rfl⟩, List.nodup_nil⟩
    · have := heap_alloc_new (w.alloc (.map #[] 0)) (.cells #[.slice none 0 0, .map (some w.heap.size)] 62)
      simpa using this
    · rw [Below.heap_alloc _ _ _ (by simp)]
      exact (MapKept.heap_alloc w _).1
  exact ⟨rfl, hA, ((Mod.refl _ w).alloc _).alloc _⟩

/-- Number, whatever the text. -/
theorem number_any {b m : Nat} {sv : Value} {L : List ByteArray} (s : ByteArray) (w : World) (ha : AtomsAt w b m sv L) (hL : L.length ≤ 1000000000) :
    Calls Try.prog 23 #[.pointer (some ⟨b, 0, none⟩), .string s] w fun e w' => e = .returned (.tuple #[.int .i64 (numR L s).1, .int .i64 (numR L s).2]) ∧
      ∃ sv', AtomsAt w' b m sv' (addT L s) ∧ Mod (fun k => k = b ∨ k = m ∨ some k = sv.ownBlock) w w' ∧ (sv'.ownBlock = sv.ownBlock ∨ ∀ k, sv'.ownBlock = some k → w.heap.size ≤ k) := by
  by_cases h : 64 < s.size
  · refine (number_long (L := L) s w h).mono ?_
    rintro e w' ⟨rfl, rfl⟩
    exact ⟨rfl, sv, by rw [show addT L s = L by unfold addT; rw [if_pos h]]; exact ha, .refl _ _, .inl rfl⟩
  · by_cases hm : s ∈ L
    · refine (number_old s w ha (by omega) hm).mono ?_
      rintro e w' ⟨rfl, rfl⟩
      exact ⟨rfl, sv, by rw [show addT L s = L by unfold addT; rw [if_neg h, if_pos hm]]; exact ha, .refl _ _, .inl rfl⟩
    · refine (number_new s w ha (by omega) hm hL).mono ?_
      rintro e w' ⟨rfl, sv', h1, h2⟩
      exact ⟨rfl, sv', by rw [show addT L s = L ++ [s] by unfold addT; rw [if_neg h, if_neg hm]]; exact h1, h2⟩

set_option maxHeartbeats 4000000 in
set_option maxRecDepth 100000 in
theorem known_any (w : World) : Calls Try.prog 9 #[] w fun e w' => e = .returned (.bool true) ∧ Mod (fun _ => False) w w' := by
  have h1 : ∀ w, Calls Try.prog 10 #[.int .u64 1, .int .i64 (-1)] w fun e w' => e = .returned (.tuple #[.int .u64 18446744073709551601, .int .i64 0]) ∧ w' = w :=
    fun w => of_any 1 (-1) w (by decide) (by decide)
  have h2 : ∀ w, Calls Try.prog 20 #[.int .i64 7, .int .i64 3] w fun e w' => e = .returned (.tuple #[.int .u64 887, .int .i64 0]) ∧ w' = w :=
    fun w => header_any 7 3 w (by decide) (by decide)
  have h3 : ∀ w, Calls Try.prog 12 #[.int .u64 887] w fun e w' => e = .returned (.tuple #[.int .i64 7, .int .i64 3, .bool true]) ∧ w' = w :=
    fun w => look_any 887 w (by decide) (by decide)
  have h4 : ∀ w, Calls Try.prog 16 #[.int .u64 18446744073709551601] w fun e w' => e = .returned (.int .i64 (-1)) ∧ w' = w :=
    fun w => body_any 18446744073709551601 w (by decide) (by decide)
  have h5 : ∀ {b m : Nat} {sv : Value} {w : World}, AtomsAt w b m sv [] → Calls Try.prog 23 #[.pointer (some ⟨b, 0, none⟩), .string ⟨#[97]⟩] w fun e w' => e = .returned (.tuple #[.int .i64 0, .int .i64 0]) ∧
      ∃ sv', AtomsAt w' b m sv' [⟨#[97]⟩] ∧ Mod (fun k => k = b ∨ k = m ∨ some k = sv.ownBlock) w w' ∧ (sv'.ownBlock = sv.ownBlock ∨ ∀ k, sv'.ownBlock = some k → w.heap.size ≤ k) :=
    fun ha => number_any ⟨#[97]⟩ _ ha (by decide)
  have h6 : ∀ {b m : Nat} {sv : Value} {w : World}, AtomsAt w b m sv [⟨#[97]⟩] → Calls Try.prog 23 #[.pointer (some ⟨b, 0, none⟩), .string ⟨#[98]⟩] w fun e w' => e = .returned (.tuple #[.int .i64 1, .int .i64 0]) ∧
      ∃ sv', AtomsAt w' b m sv' [⟨#[97]⟩, ⟨#[98]⟩] ∧ Mod (fun k => k = b ∨ k = m ∨ some k = sv.ownBlock) w w' ∧ (sv'.ownBlock = sv.ownBlock ∨ ∀ k, sv'.ownBlock = some k → w.heap.size ≤ k) :=
    fun ha => number_any ⟨#[98]⟩ _ ha (by decide)
  go_enter Try.func9, Try.ntmps9
  go_wp2_with (first
    | (go_at_call 10; refine (h1 _).mono ?_; rintro e w' ⟨rfl, rfl⟩)
    | (go_at_call 20; refine (h2 _).mono ?_; rintro e w' ⟨rfl, rfl⟩)
    | (go_at_call 12; refine (h3 _).mono ?_; rintro e w' ⟨rfl, rfl⟩))
  refine (newAtoms_any _).mono ?_
  rintro e w1 ⟨rfl, hA1, hM1⟩
  go_wp2_with fail
  refine (h5 hA1).mono ?_
  rintro e w2 ⟨rfl, sv2, hA2, hM2, hF2⟩
  go_wp2_with fail
  refine (h6 hA2).mono ?_
  rintro e w3 ⟨rfl, sv3, hA3, hM3, hF3⟩
  go_wp2_with (go_at_call 16; refine (h4 _).mono ?_; rintro e w' ⟨rfl, rfl⟩)
  go_ret
  refine ⟨rfl, ?_⟩
  have hz := hM1.size
  have hz2 := hM2.size
  refine (hM1.trans hM2 ?_).trans hM3 ?_
  · rintro i hi (h | h | h)
    · omega
    · omega
    · cases h
  · rintro i hi (h | h | h)
    · omega
    · omega
    · rcases hF2 with hF2 | hF2
      · rw [hF2] at h
        cases h
      · have := hF2 i h.symm
        omega

end Go.Proofs.Ytlgkofgieceooaa
