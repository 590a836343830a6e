/- The document's tree: a rising list in two rows: find, Get, From. -/
import Derived.Test.YtpkapfhfnnfomaaTreeLaw
import Derived.Deep.QuietTactic
import Derived.BigQuiet
namespace Go.Proofs.Ytpkapfhfnnfomaa
open Go.RowKit

/-- Block b is the document's tree of L; its two rows lie in kv and vv. -/
structure RefAt (w : World) (b : Nat) (kv vv : Value) (L : List (Int × Int)) : Prop where
  blk : w.heap[b]? = some (.cells #[kv, vv] 38 (0, 0))
  keys : w.ownsRow 0 3 1 kv L.length (L.map fun x => .int .i64 x.1)
  vals : w.ownsRow 0 3 1 vv L.length (L.map fun x => .int .i64 x.2)
  apart : ∀ k, kv.ownBlock = some k → vv.ownBlock ≠ some k

theorem RefAt.drewN {w : World} {b : Nat} {kv vv : Value} {L : List (Int × Int)} (h : RefAt w b kv vv L) (n : Nat) : RefAt (w.drewN n) b kv vv L := ⟨h.blk, h.keys, h.vals, h.apart⟩

theorem RefAt.keep {F : Nat → Prop} {w w' : World} {b : Nat} {kv vv : Value} {L : List (Int × Int)} (h : RefAt w b kv vv L) (hM : Mod F w w') (hb : ¬ F b) (hk : ∀ k, kv.ownBlock = some k → ¬ F k) (hv : ∀ k, vv.ownBlock = some k → ¬ F k) : RefAt w' b kv vv L :=
  ⟨hM.keep h.blk hb, own_keep hM h.keys hk, own_keep hM h.vals hv, h.apart⟩

/-- How many keys lie below one. -/
def place (key : Int) : List (Int × Int) → Nat
  | [] => 0
  | a :: L => if a.1 < key then place key L + 1 else 0

theorem place_le (key : Int) (L : List (Int × Int)) : place key L ≤ L.length := by
  induction L with
  | nil => simp [place]
  | cons a L ih => simp only [place, List.length_cons]; split <;> omega

theorem place_of {key : Int} {L : List (Int × Int)} {j : Nat} (h1 : ∀ q, q < j → ∀ a, L[q]? = some a → a.1 < key) (h2 : j = L.length ∨ ∃ a, L[j]? = some a ∧ ¬ a.1 < key) : place key L = j := by
  induction L generalizing j with
  | nil =>
    rcases h2 with h2 | ⟨a, h2, _⟩
    · simpa [place] using h2.symm
    · simp at h2
  | cons b L ih =>
    simp only [place]
    cases j with
    | zero =>
      rcases h2 with h2 | ⟨a, h2, h3⟩
      · simp at h2
      · obtain rfl : b = a := by simpa using h2
        rw [if_neg h3]
    | succ j =>
      have hb := h1 0 (by omega) b rfl
      rw [if_pos hb, ih (j := j)]
      · intro q hq a ha
        exact h1 (q + 1) (by omega) a (by simpa using ha)
      · rcases h2 with h2 | ⟨a, h2, h3⟩
        · left; simpa using h2
        · right; exact ⟨a, by simpa using h2, h3⟩

/-- Is it there? -/
def there (key : Int) (L : List (Int × Int)) : Bool := match L[place key L]? with
  | some a => decide (a.1 = key)
  | none => false

theorem place_below {key : Int} {L : List (Int × Int)} {q : Nat} (h : q < place key L) {a : Int × Int} (ha : L[q]? = some a) : a.1 < key := by
  induction L generalizing q with
  | nil => simp at ha
  | cons b L ih =>
    simp only [place] at h
    split at h
    · rename_i hb
      cases q with
      | zero => obtain rfl : b = a := by simpa using ha
                exact hb
      | succ q => exact ih (q := q) (by omega) (by simpa using ha)
    · omega

theorem place_at {key : Int} {L : List (Int × Int)} {a : Int × Int} (ha : L[place key L]? = some a) : key ≤ a.1 := by
  induction L with
  | nil => simp at ha
  | cons b L ih =>
    simp only [place] at ha
    split at ha
    · exact ih (by simpa using ha)
    · obtain rfl : b = a := by simpa using ha
      omega

theorem there_look {key : Int} {L : List (Int × Int)} (hL : Rising L) : (there key L = true ∧ ∃ a, L[place key L]? = some a ∧ a.1 = key ∧ look key L = some a.2) ∨ (there key L = false ∧ look key L = none) := by
  unfold there
  cases ha : L[place key L]? with
  | none =>
    right
    refine ⟨rfl, look_none fun y hy e => ?_⟩
    obtain ⟨q, hq⟩ := List.getElem?_of_mem hy
    have h1 : L.length ≤ place key L := by
      rcases Nat.lt_or_ge (place key L) L.length with h | h
      · rw [List.getElem?_eq_getElem h] at ha; cases ha
      · exact h
    have := place_below (key := key) (q := q) (by have := (List.getElem?_eq_some_iff.1 hq).1; omega) hq
    omega
  | some a =>
    by_cases h : a.1 = key
    · left
      refine ⟨decide_eq_true h, a, rfl, h, ?_⟩
      have := look_of_mem hL (List.mem_of_getElem? ha)
      rw [h] at this
      exact this
    · right
      refine ⟨decide_eq_false h, look_none fun y hy e => ?_⟩
      obtain ⟨q, hq⟩ := List.getElem?_of_mem hy
      rcases Nat.lt_trichotomy q (place key L) with hlt | heq | hgt
      · have := place_below hlt hq; omega
      · rw [heq, ha] at hq
        exact h (by rw [Option.some.inj hq]; exact e)
      · have hp := List.pairwise_iff_getElem.1 hL
        obtain ⟨hq1, hq2⟩ := List.getElem?_eq_some_iff.1 hq
        obtain ⟨ha1, ha2⟩ := List.getElem?_eq_some_iff.1 ha
        have := hp _ _ ha1 hq1 hgt
        rw [ha2, hq2] at this
        have := place_at ha
        omega

set_option maxHeartbeats 2000000 in
theorem find_any {b : Nat} {kv vv : Value} {L : List (Int × Int)} (key : Int) (w : World) (h : RefAt w b kv vv L) (hL : L.length ≤ 1000000000) :
    Calls Try.prog 28 #[.pointer (some ⟨b, 0, none⟩), .int .i64 key] w fun e w' => e = .returned (.tuple #[.int .i64 (place key L), .bool (there key L)]) ∧ ∃ n, w' = w.drewN n := by
  obtain ⟨so, sc, rfl⟩ := own_slice h.keys
  have c0 := cell_of_heap h.blk 0
  simp only [List.getElem?_toArray, List.getElem?_cons_zero] at c0
  have HR := Lib.hid h.keys
  clear h
  go_enter Try.func28, Try.ntmps28
  go_wp2_with fail
  go_loopg [6] L.length (fun g i wr => w = wr ∧ ∃ j : Nat, j + g = L.length ∧ i = .int .i64 j ∧ Hid (∀ q, q < j → ∀ a, L[q]? = some a → a.1 < key))
  case atStart => exact ⟨rfl, 0, by omega, rfl, Lib.hid (fun q hq => by omega)⟩
  case round =>
    obtain ⟨rfl, j, hj, rfl, hbel⟩ := hrel
    by_cases hlt : j < L.length
    · obtain ⟨g, cap, x0, he, hx, hc, hc'⟩ := own_cell HR.out hlt
      injection he with he1 he2 he3
      subst he1
      subst he3
      obtain ⟨x, hxs, rfl⟩ : ∃ x, L[j]? = some x ∧ x0 = .int .i64 x.1 := by
        rw [List.getElem?_map] at hx
        cases hxs : L[j]? with
        | none => simp [hxs] at hx
        | some x => simp [hxs] at hx; exact ⟨x, rfl, hx.symm⟩
      have HX := Lib.hid hxs
      clear hx hxs
      have hb0 : decide ((j : Int) < (L.length : Int)) = true := decide_eq_true (by omega)
      by_cases hk : x.1 < key
      · have e1 : IntKind.i64.wrap ((j : Int) + 1) = ((j + 1 : Nat) : Int) := by rw [IntWalk.i64_in _ (by omega)]; rfl
        go_wp2_with fail
        go_roundg (L.length - j - 1)
        case measure => omega
        case rel =>
          refine ⟨rfl, j + 1, by omega, rfl, Lib.hid (fun q hq a ha => ?_)⟩
          rcases Nat.lt_succ_iff_lt_or_eq.1 hq with hq | rfl
          · exact hbel.out q hq a ha
          · rw [HX.out] at ha
            rw [← Option.some.inj ha]
            exact hk
      · have hp : place key L = j := place_of hbel.out (.inr ⟨x, HX.out, hk⟩)
        have ht : there key L = (x.1 == key) := by
          unfold there
          rw [hp, HX.out]
          show decide (x.1 = key) = _
          rw [Bool.eq_iff_iff]
          simp
        have HP := Lib.hid (And.intro hp ht)
        clear hp ht hbel
        go_wp2_with fail
        go_quiet (fail)
        go_wp2
        go_ret2
        exact ⟨by rw [HP.out.1, HP.out.2]; rfl, nq, rfl⟩
    · obtain rfl : j = L.length := by omega
      have hp : place key L = L.length := place_of hbel.out (.inl rfl)
      have ht : there key L = false := by
        unfold there
        rw [hp]
        simp
      have HP := Lib.hid (And.intro hp ht)
      clear hp ht hbel hlt
      go_wp2_with fail
      go_quiet (fail)
      go_wp2
      go_ret2
      exact ⟨by rw [HP.out.1, HP.out.2]; rfl, nq, rfl⟩

theorem from_any {b : Nat} {kv vv : Value} {L : List (Int × Int)} (key : Int) (w : World) (h : RefAt w b kv vv L) (hL : L.length ≤ 1000000000) :
    Calls Try.prog 29 #[.pointer (some ⟨b, 0, none⟩), .int .i64 key] w fun e w' => e = .returned (.int .i64 (place key L)) ∧ ∃ n, w' = w.drewN n := by
  have hf := find_any key w h hL
  clear h
  go_enter Try.func29, Try.ntmps29
  go_wp2_with (go_at_call 28; (with_reducible refine hf.mono ?_); rintro e w' ⟨rfl, n, rfl⟩)
  go_ret
  exact ⟨rfl, n, rfl⟩

/-- What Get tells. -/
def lookR (L : List (Int × Int)) (key : Int) : Int × Bool := match look key L with | some v => (v, true) | none => (0, false)

set_option maxHeartbeats 2000000 in
theorem getL_any {b : Nat} {kv vv : Value} {L : List (Int × Int)} (key : Int) (w : World) (h : RefAt w b kv vv L) (hL : L.length ≤ 1000000000) (hr : Rising L) :
    Calls Try.prog 19 #[.pointer (some ⟨b, 0, none⟩), .int .i64 key] w fun e w' => e = .returned (.tuple #[.int .i64 (lookR L key).1, .bool (lookR L key).2]) ∧ ∃ n, w' = w.drewN n := by
  have hf := find_any key w h hL
  have c1 := cell_of_heap h.blk 1
  simp only [List.getElem?_toArray, List.getElem?_cons_succ, List.getElem?_cons_zero] at c1
  rcases there_look (key := key) hr with ⟨ht, a, ha, hk, hlk⟩ | ⟨ht, hlk⟩
  · rw [ht] at hf
    have hlt : place key L < L.length := (List.getElem?_eq_some_iff.1 ha).1
    obtain ⟨g, cap, x0, he, hx, hc, hc'⟩ := own_cell h.vals hlt
    subst he
    obtain rfl : Value.int .i64 a.2 = x0 := by
      rw [List.getElem?_map, ha] at hx
      simpa using hx
    have hR : lookR L key = (a.2, true) := by unfold lookR; rw [hlk]
    rw [hR]
    generalize place key L = j at hf hlt hc hc'
    clear h hr hx ha hk hlk ht hR
    go_enter Try.func19, Try.ntmps19
    go_wp2_with (go_at_call 28; (with_reducible refine hf.mono ?_); rintro e w' ⟨rfl, n, rfl⟩)
    go_ret2
    exact ⟨rfl, n, rfl⟩
  · rw [ht] at hf
    have hR : lookR L key = (0, false) := by unfold lookR; rw [hlk]
    rw [hR]
    clear h hr hlk ht hR c1
    go_enter Try.func19, Try.ntmps19
    go_wp2_with (go_at_call 28; (with_reducible refine hf.mono ?_); rintro e w' ⟨rfl, n, rfl⟩)
    go_ret2
    exact ⟨rfl, n, rfl⟩

end Go.Proofs.Ytpkapfhfnnfomaa
