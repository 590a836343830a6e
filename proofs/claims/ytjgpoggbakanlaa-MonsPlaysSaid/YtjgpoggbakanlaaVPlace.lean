/- Places in a rising list. -/
import Derived.Test.YtjgpoggbakanlaaVTreeKeys
namespace Go.Proofs.Ytjgpoggbakanlaa
open Go.RowKit

/-- How many keys lie below one. -/
def place (key : Int) : List (Int × (Int × Int × ByteArray)) → Nat
  | [] => 0
  | a :: L => if a.1 < key then place key L + 1 else 0

theorem place_le (key : Int) (L : List (Int × (Int × Int × ByteArray))) : place key L ≤ L.length := by
  induction L with
  | nil => simp [place]
  | cons a L ih => simp only [place, List.length_cons]; split <;> omega

theorem place_of {key : Int} {L : List (Int × (Int × Int × ByteArray))} {j : Nat} (h1 : ∀ q, q < j → ∀ a, L[q]? = some a → a.1 < key) (h2 : j = L.length ∨ ∃ a, L[j]? = some a ∧ ¬ a.1 < key) : place key L = j := by
  induction L generalizing j with
  | nil =>
    rcases h2 with h2 | ⟨a, h2, _⟩
    · simpa [place] using h2.symm
    · simp at h2
  | cons b L ih =>
    simp only [place]
    cases j with
    | zero =>
      rcases h2 with h2 | ⟨a, h2, h3⟩
      · simp at h2
      · obtain rfl : b = a := by simpa using h2
        rw [if_neg h3]
    | succ j =>
      have hb := h1 0 (by omega) b rfl
      rw [if_pos hb, ih (j := j)]
      · intro q hq a ha
        exact h1 (q + 1) (by omega) a (by simpa using ha)
      · rcases h2 with h2 | ⟨a, h2, h3⟩
        · left; simpa using h2
        · right; exact ⟨a, by simpa using h2, h3⟩

/-- Is it there? -/
def there (key : Int) (L : List (Int × (Int × Int × ByteArray))) : Bool := match L[place key L]? with
  | some a => decide (a.1 = key)
  | none => false

theorem place_below {key : Int} {L : List (Int × (Int × Int × ByteArray))} {q : Nat} (h : q < place key L) {a : Int × (Int × Int × ByteArray)} (ha : L[q]? = some a) : a.1 < key := by
  induction L generalizing q with
  | nil => simp at ha
  | cons b L ih =>
    simp only [place] at h
    split at h
    · rename_i hb
      cases q with
      | zero => obtain rfl : b = a := by simpa using ha
                exact hb
      | succ q => exact ih (q := q) (by omega) (by simpa using ha)
    · omega

theorem place_at {key : Int} {L : List (Int × (Int × Int × ByteArray))} {a : Int × (Int × Int × ByteArray)} (ha : L[place key L]? = some a) : key ≤ a.1 := by
  induction L with
  | nil => simp at ha
  | cons b L ih =>
    simp only [place] at ha
    split at ha
    · exact ih (by simpa using ha)
    · obtain rfl : b = a := by simpa using ha
      omega

theorem there_look {key : Int} {L : List (Int × (Int × Int × ByteArray))} (hL : Rising L) : (there key L = true ∧ ∃ a, L[place key L]? = some a ∧ a.1 = key ∧ look key L = some a.2) ∨ (there key L = false ∧ look key L = none) := by
  unfold there
  cases ha : L[place key L]? with
  | none =>
    right
    refine ⟨rfl, look_none fun y hy e => ?_⟩
    obtain ⟨q, hq⟩ := List.getElem?_of_mem hy
    have h1 : L.length ≤ place key L := by
      rcases Nat.lt_or_ge (place key L) L.length with h | h
      · rw [List.getElem?_eq_getElem h] at ha; cases ha
      · exact h
    have := place_below (key := key) (q := q) (by have := (List.getElem?_eq_some_iff.1 hq).1; omega) hq
    omega
  | some a =>
    by_cases h : a.1 = key
    · left
      refine ⟨decide_eq_true h, a, rfl, h, ?_⟩
      have := look_of_mem hL (List.mem_of_getElem? ha)
      rw [h] at this
      exact this
    · right
      refine ⟨decide_eq_false h, look_none fun y hy e => ?_⟩
      obtain ⟨q, hq⟩ := List.getElem?_of_mem hy
      rcases Nat.lt_trichotomy q (place key L) with hlt | heq | hgt
      · have := place_below hlt hq; omega
      · rw [heq, ha] at hq
        exact h (by rw [Option.some.inj hq]; exact e)
      · have hp := List.pairwise_iff_getElem.1 hL
        obtain ⟨hq1, hq2⟩ := List.getElem?_eq_some_iff.1 hq
        obtain ⟨ha1, ha2⟩ := List.getElem?_eq_some_iff.1 ha
        have := hp _ _ ha1 hq1 hgt
        rw [ha2, hq2] at this
        have := place_at ha
        omega

theorem ins_there {key : Int} {x : (Int × Int × ByteArray)} {L : List (Int × (Int × Int × ByteArray))} {a : Int × (Int × Int × ByteArray)} (ha : L[place key L]? = some a) (hk : a.1 = key) : ins key x L = L.set (place key L) (key, x) := by
  induction L with
  | nil => simp at ha
  | cons c L ih =>
    simp only [place, ins] at ha ⊢
    split
    · rename_i hc
      rw [if_pos hc] at ha
      rw [ih (by simpa using ha)]
      rfl
    · rename_i hc
      rw [if_neg hc] at ha
      obtain rfl : c = a := by simpa using ha
      rw [if_pos hk]
      rfl

theorem ins_not {key : Int} {x : (Int × Int × ByteArray)} {L : List (Int × (Int × Int × ByteArray))} (h : there key L = false) : ins key x L = L.take (place key L) ++ (key, x) :: L.drop (place key L) := by
  induction L with
  | nil => rfl
  | cons c L ih =>
    simp only [there, place] at h
    simp only [place, ins]
    split
    · rename_i hc
      rw [if_pos hc] at h
      rw [ih (by simpa [there] using h)]
      rfl
    · rename_i hc
      rw [if_neg hc] at h
      have hne : ¬ c.1 = key := by simpa using h
      rw [if_neg hne]
      rfl

theorem map_erase {α β : Type} (f : α → β) (l : List α) (i : Nat) : (l.eraseIdx i).map f = (l.map f).eraseIdx i := by
  rw [List.eraseIdx_eq_take_drop_succ, List.eraseIdx_eq_take_drop_succ, List.map_append, List.map_take, List.map_drop]

theorem del_place {key : Int} {L : List (Int × (Int × Int × ByteArray))} {a : Int × (Int × Int × ByteArray)} (ha : L[place key L]? = some a) (hk : a.1 = key) : del key L = L.eraseIdx (place key L) := by
  induction L with
  | nil => simp at ha
  | cons c L ih =>
    simp only [place, del] at ha ⊢
    split
    · rename_i hc
      rw [if_pos hc] at ha
      rw [ih (by simpa using ha)]
      rfl
    · rename_i hc
      rw [if_neg hc] at ha
      obtain rfl : c = a := by simpa using ha
      rw [if_pos hk]
      rfl

theorem del_none {key : Int} {L : List (Int × (Int × Int × ByteArray))} (hr : Rising L) (h : look key L = none) : del key L = L := by
  refine rising_eq (rising_del hr) hr fun y => ?_
  rw [mem_del hr]
  constructor
  · exact fun h => h.1
  · refine fun hy => ⟨hy, fun e => ?_⟩
    have := look_of_mem hr hy
    rw [e, h] at this
    cases this

end Go.Proofs.Ytjgpoggbakanlaa
