/- Plain: texts and their numbers. -/
import Derived.Test.YtlgkofgieceooaaAtomsBoth
namespace Go.Proofs.Ytlgkofgieceooaa
open Go.RowKit

/-- The numbers N of the texts l, by the table T: -1 for what is too long. -/
def Numbered (T : List ByteArray) (l : List ByteArray) (N : List Int) : Prop :=
  N.length ≤ l.length ∧ ∀ i, i < N.length → ∃ s z, l[i]? = some s ∧ N[i]? = some z ∧ ((64 < s.size ∧ z = -1) ∨ (s.size ≤ 64 ∧ ∃ j : Nat, z = j ∧ T[j]? = some s))

theorem Numbered.nil (l : List ByteArray) : Numbered [] l [] := ⟨Nat.zero_le _, fun i h => by simp at h⟩

theorem addT_get {T : List ByteArray} {s t : ByteArray} {j : Nat} (h : T[j]? = some t) : (addT T s)[j]? = some t := by
  unfold addT
  split
  · exact h
  · split
    · exact h
    · rw [List.getElem?_append_left (List.getElem?_eq_some_iff.1 h).1]
      exact h

theorem addT_self {T : List ByteArray} {s : ByteArray} (hs : s.size ≤ 64) : ∃ j : Nat, (numR T s).1 = j ∧ (addT T s)[j]? = some s := by
  have hs' : ¬ 64 < s.size := by omega
  unfold numR addT
  simp only [hs', if_false]
  by_cases hm : s ∈ T
  · simp only [hm, if_true]
    exact ⟨T.idxOf s, rfl, by rw [List.getElem?_eq_getElem (List.idxOf_lt_length_iff.2 hm)]; simp⟩
  · simp only [hm, if_false]
    exact ⟨T.length, rfl, by simp⟩

theorem Numbered.long {T l : List ByteArray} {N : List Int} (h : Numbered T l N) {s : ByteArray} (hs : l[N.length]? = some s) (hl : 64 < s.size) : Numbered (addT T s) l (N ++ [-1]) := by
  have hk := (List.getElem?_eq_some_iff.1 hs).1
  refine ⟨by simp; omega, fun i hi => ?_⟩
  by_cases hi' : i < N.length
  · obtain ⟨t, z, h1, h2, h3⟩ := h.2 i hi'
    refine ⟨t, z, h1, by rw [List.getElem?_append_left hi']; exact h2, ?_⟩
    rcases h3 with h3 | ⟨h3, j, h4, h5⟩
    · exact .inl h3
    · exact .inr ⟨h3, j, h4, addT_get h5⟩
  · have : i = N.length := by simp at hi; omega
    subst this
    exact ⟨s, -1, hs, by simp, .inl ⟨hl, rfl⟩⟩

theorem Numbered.short {T l : List ByteArray} {N : List Int} (h : Numbered T l N) {s : ByteArray} (hs : l[N.length]? = some s) (hl : s.size ≤ 64) : Numbered (addT T s) l (N ++ [(numR T s).1]) := by
  have hk := (List.getElem?_eq_some_iff.1 hs).1
  refine ⟨by simp; omega, fun i hi => ?_⟩
  by_cases hi' : i < N.length
  · obtain ⟨t, z, h1, h2, h3⟩ := h.2 i hi'
    refine ⟨t, z, h1, by rw [List.getElem?_append_left hi']; exact h2, ?_⟩
    rcases h3 with h3 | ⟨h3, j, h4, h5⟩
    · exact .inl h3
    · exact .inr ⟨h3, j, h4, addT_get h5⟩
  · have : i = N.length := by simp at hi; omega
    subst this
    obtain ⟨j, h1, h2⟩ := addT_self (T := T) hl
    exact ⟨s, (numR T s).1, hs, by simp, .inr ⟨hl, j, h1, h2⟩⟩

/-- Unlike texts have unlike numbers. -/
theorem numbers_part {T : List ByteArray} (hn : T.Nodup) {s t : ByteArray} {i j : Nat} (hi : T[i]? = some s) (hj : T[j]? = some t) : (((i : Int) == (j : Int)) != (s.toList == t.toList)) = false := by
  rw [str_eq]
  have h1 := (List.getElem?_eq_some_iff.1 hi).1
  have h2 := (List.getElem?_eq_some_iff.1 hj).1
  by_cases h : i = j
  · subst h
    rw [hi] at hj
    simp [Option.some.inj hj]
  · have hne : s ≠ t := by
      rintro rfl
      have hp := List.pairwise_iff_getElem.1 hn
      have e1 := (List.getElem?_eq_some_iff.1 hi).2
      have e2 := (List.getElem?_eq_some_iff.1 hj).2
      rcases Nat.lt_or_gt_of_ne h with hlt | hlt
      · exact hp i j h1 h2 hlt (e1.trans e2.symm)
      · exact hp j i h2 h1 hlt (e2.trans e1.symm)
    have : ((i : Int) == (j : Int)) = false := by simp; omega
    rw [this]
    simp [hne]

theorem numbers_eq {T : List ByteArray} (hn : T.Nodup) {s t : ByteArray} {i j : Nat} (hi : T[i]? = some s) (hj : T[j]? = some t) :
    (((i : Int) == (j : Int)) = (s.toList == t.toList)) ∧ ((i == j) = (s.toList == t.toList)) := by
  have h1 := numbers_part hn hi hj
  have h2 : ((i : Int) == (j : Int)) = (i == j) := by
    rw [Bool.eq_iff_iff]
    simp
    omega
  have h3 : ((i : Int) == (j : Int)) = (s.toList == t.toList) := by simpa using h1
  exact ⟨h3, h2 ▸ h3⟩

end Go.Proofs.Ytlgkofgieceooaa
