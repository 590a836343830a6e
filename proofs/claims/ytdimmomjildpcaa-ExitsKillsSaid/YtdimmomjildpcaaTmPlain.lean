/- Terms as plain data; what the document's functions and the program's tell of them. -/
namespace Go.Proofs.Ytdimmomjildpcaa

/-- A term: its kind, its number, its float's bits, its text, its elements. -/
inductive Tm where
  | mk (kind n : Int) (f : Nat) (s : ByteArray) (l : List Tm)

namespace Tm
def kind : Tm → Int | .mk k _ _ _ _ => k
def n : Tm → Int | .mk _ n _ _ _ => n
def f : Tm → Nat | .mk _ _ f _ _ => f
def s : Tm → ByteArray | .mk _ _ _ s _ => s
def l : Tm → List Tm | .mk _ _ _ _ l => l

theorem ind {P : Tm → Prop} (h : ∀ t : Tm, (∀ x ∈ t.l, P x) → P t) : ∀ t, P t
  | .mk k n f s l => h (.mk k n f s l) (fun x _hx => ind h x)
termination_by t => t
decreasing_by
  have := List.sizeOf_lt_of_mem (show x ∈ l from _hx)
  simp
  omega
end Tm

mutual
/-- What Few tells. -/
def fewT : Tm → Int → Int → Int
  | .mk _ _ _ _ l, left, deep => if left < 0 ∨ deep < 0 then -1 else fewL l (left - 1) deep
def fewL : List Tm → Int → Int → Int
  | [], left, _ => left
  | x :: xs, left, deep => if left < 0 then left else fewL xs (fewT x left (deep - 1)) deep
end

mutual
/-- How many parts. -/
def cntT : Tm → Nat
  | .mk _ _ _ _ l => cntL l + 1
def cntL : List Tm → Nat
  | [] => 0
  | x :: xs => cntT x + cntL xs
end

theorem few_bound : (∀ (t : Tm) (left deep : Int), 0 ≤ fewT t left deep → 0 ≤ left ∧ fewT t left deep ≤ left - cntT t) ∧ (∀ (l : List Tm) (left deep : Int), 0 ≤ fewL l left deep → 0 ≤ left ∧ fewL l left deep ≤ left - cntL l) := by
  have main : ∀ t : Tm, ∀ (left deep : Int), 0 ≤ fewT t left deep → 0 ≤ left ∧ fewT t left deep ≤ left - cntT t := by
    intro t
    induction t using Tm.ind with
    | h t ih =>
      obtain ⟨k, n, f, s, l⟩ := t
      intro left deep
      have hl : ∀ (xs : List Tm), (∀ x ∈ xs, x ∈ l) → ∀ (left deep : Int), 0 ≤ fewL xs left deep → 0 ≤ left ∧ fewL xs left deep ≤ left - cntL xs := by
        intro xs
        induction xs with
        | nil => intro _ left deep h; simp only [fewL, cntL] at h ⊢; omega
        | cons x xs ihx =>
          intro hm left deep h
          simp only [fewL, cntL] at h ⊢
          split at h
          · omega
          · rename_i h0
            rw [if_neg h0]
            have h1 := ihx (fun y hy => hm y (List.mem_cons_of_mem _ hy)) _ _ h
            have h2 := ih x (hm x (List.mem_cons_self)) left (deep - 1) h1.1
            omega
      simp only [fewT, cntT]
      split
      · intro h; omega
      · intro h
        have := hl l (fun _ h => h) _ _ h
        omega
  refine ⟨main, ?_⟩
  intro xs
  induction xs with
  | nil => intro left deep h; simp only [fewL, cntL] at h ⊢; omega
  | cons x xs ihx =>
    intro left deep h
    simp only [fewL, cntL] at h ⊢
    split at h
    · omega
    · rename_i h0
      rw [if_neg h0]
      have h1 := ihx _ _ h
      have h2 := main x left (deep - 1) h1.1
      omega

theorem len_cnt (l : List Tm) : l.length ≤ cntL l := by
  induction l with
  | nil => simp [cntL]
  | cons x xs ih =>
    obtain ⟨k, n, f, s, l⟩ := x
    simp only [cntL, cntT, List.length_cons]
    omega

theorem cnt_mem {l : List Tm} {x : Tm} (h : x ∈ l) : cntT x ≤ cntL l := by
  induction l with
  | nil => cases h
  | cons y ys ih =>
    simp only [cntL]
    rcases List.mem_cons.1 h with rfl | h
    · omega
    · have := ih h; omega

theorem cnt_l (t : Tm) : cntT t = cntL t.l + 1 := by
  obtain ⟨k, n, f, s, l⟩ := t
  rfl

/-- The words of a term itself. -/
def ownV (k : Int) (m : Nat) : Int :=
  if k = 1 then 0 else if k = 3 then 0 else if k = 6 then 0 else if k = 2 then 2 else if k = 4 then 2
  else if k = 8 then 2 * (m : Int) else if k = 5 then 2 + (m : Int) else 1 + (m : Int)

def ownT (t : Tm) : Int := ownV t.kind t.l.length

theorem own_nonneg (t : Tm) : 0 ≤ ownT t := by
  unfold ownT ownV
  repeat' split
  all_goals omega

mutual
/-- What the document's measure tells. -/
def measT : Tm → Int → Int → Int
  | .mk k n f s l, d, most => if d < 1 then -1 else if most < ownT (.mk k n f s l) then -1 else measL l (d - 1) most (ownT (.mk k n f s l))
def measL : List Tm → Int → Int → Int → Int
  | [], _, _, n => n
  | x :: xs, d, most, n => if measT x d (most - n) < 0 then -1 else measL xs d most (n + measT x d (most - n))
end

/-- Is a float finite? -/
def finF (b : Nat) : Bool := decide (b % 9223372036854775808 < 9218868437227405312)

/-- Is a term a right number? -/
def numV (k n : Int) (f : Nat) (s : ByteArray) (m : Nat) : Bool :=
  if k = 1 then decide (s = ⟨#[]⟩) && decide (m = 0) && decide (-576460752303423488 ≤ n) && decide (n ≤ 576460752303423487) && decide (f = 0)
  else if k = 2 then decide (s = ⟨#[]⟩) && decide (m = 0) && decide (n = 0) && finF f
  else false

/-- Is a term itself as its kind must be? -/
def fieldsV (k n : Int) (f : Nat) (s : ByteArray) (m : Nat) : Bool :=
  if k = 1 ∨ k = 2 then numV k n f s m
  else if k = 3 then decide (s.size ≤ 64) && decide (n = 0) && decide (f = 0) && decide (m = 0)
  else if k = 4 ∨ k = 6 then decide (0 ≤ n) && decide (n ≤ 1099511627776) && decide (s = ⟨#[]⟩) && decide (f = 0) && decide (m = 0)
  else if k = 5 then decide (0 ≤ n) && decide (n ≤ 16384) && decide (s = ⟨#[]⟩) && decide (f = 0)
  else if k = 7 ∨ k = 8 then decide (n = 0) && decide (s = ⟨#[]⟩) && decide (f = 0)
  else false

def fieldsT (t : Tm) : Bool := fieldsV t.kind t.n t.f t.s t.l.length

mutual
def allT : Tm → Bool
  | .mk k n f s l => fieldsT (.mk k n f s l) && allL l
def allL : List Tm → Bool
  | [] => true
  | x :: xs => allT x && allL xs
end

/-- What the document's Check tells. -/
def checkT (t : Tm) : Int := if measT t 200 65536 < 0 then 12 else if allT t then 0 else 4

/-- A walk's state: words, depth, bad, over. -/
structure Lk where
  words : Int
  depth : Int
  bad : Bool
  over : Bool

mutual
/-- What the program's walk does. -/
def walkT : Tm → Int → Lk → Lk
  | .mk k n f s l, d, q =>
    if 200 < d then ⟨q.words, max q.depth d, q.bad, true⟩
    else if 65536 < q.words + ownT (.mk k n f s l) then ⟨q.words + ownT (.mk k n f s l), max q.depth d, q.bad, true⟩
    else walkL l (d + 1) ⟨q.words + ownT (.mk k n f s l), max q.depth d, q.bad || !fieldsT (.mk k n f s l), q.over⟩
def walkL : List Tm → Int → Lk → Lk
  | [], _, q => q
  | x :: xs, d, q => if (walkT x d q).over then walkT x d q else walkL xs d (walkT x d q)
end

theorem meas_cases : ∀ (t : Tm), (∀ d most, measT t d most = -1 ∨ 0 ≤ measT t d most) := by
  intro t
  induction t using Tm.ind with
  | h t ih =>
    obtain ⟨k, n, f, s, l⟩ := t
    intro d most
    have hl : ∀ (xs : List Tm), (∀ x ∈ xs, x ∈ l) → ∀ d most n, 0 ≤ n → measL xs d most n = -1 ∨ 0 ≤ measL xs d most n := by
      intro xs
      induction xs with
      | nil => intro _ d most n h; exact .inr h
      | cons x xs ihx =>
        intro hm d most n hn
        simp only [measL]
        split
        · exact .inl rfl
        · exact ihx (fun y hy => hm y (List.mem_cons_of_mem _ hy)) _ _ _ (by omega)
    simp only [measT]
    split
    · exact .inl rfl
    · split
      · exact .inl rfl
      · exact hl l (fun _ h => h) _ _ _ (own_nonneg _)

/-- The walk and the document's measure tell the same. -/
theorem walk_meas (t : Tm) : ∀ (d : Int) (q : Lk), q.over = false → q.words ≤ 65536 →
    ((measT t (201 - d) (65536 - q.words) < 0 ∧ (walkT t d q).over = true) ∨
     (0 ≤ measT t (201 - d) (65536 - q.words) ∧ (walkT t d q).over = false ∧ (walkT t d q).words = q.words + measT t (201 - d) (65536 - q.words) ∧ (walkT t d q).words ≤ 65536 ∧ (walkT t d q).bad = (q.bad || !allT t))) := by
  induction t using Tm.ind with
  | h t ih =>
    obtain ⟨k, n, f, s, l⟩ := t
    intro d q ho hw
    have hl : ∀ (xs : List Tm), (∀ x ∈ xs, x ∈ l) → ∀ (d : Int) (q : Lk) (m0 most : Int), q.over = false → q.words ≤ 65536 → 0 ≤ m0 → most - m0 = 65536 - q.words →
        ((measL xs (201 - d) most m0 < 0 ∧ (walkL xs d q).over = true) ∨
         (0 ≤ measL xs (201 - d) most m0 ∧ (walkL xs d q).over = false ∧ (walkL xs d q).words - q.words = measL xs (201 - d) most m0 - m0 ∧ (walkL xs d q).words ≤ 65536 ∧ (walkL xs d q).bad = (q.bad || !allL xs))) := by
      intro xs
      induction xs with
      | nil =>
        intro _ d q m0 most ho hw h0 hm
        right
        simp only [measL, walkL, allL]
        exact ⟨h0, ho, by omega, hw, by simp⟩
      | cons x xs ihx =>
        intro hmem d q m0 most ho hw h0 hm
        simp only [measL, walkL, allL]
        rw [hm]
        rcases ih x (hmem x (List.mem_cons_self)) d q ho hw with ⟨h1, h2⟩ | ⟨h1, h2, h3, h4, h5⟩
        · left
          rw [if_pos h1, if_pos h2]
          exact ⟨by omega, h2⟩
        · rw [if_neg (by omega), if_neg (by rw [h2]; decide)]
          rcases ihx (fun y hy => hmem y (List.mem_cons_of_mem _ hy)) d (walkT x d q) (m0 + measT x (201 - d) (65536 - q.words)) most h2 h4 (by omega) (by omega) with ⟨g1, g2⟩ | ⟨g1, g2, g3, g4, g5⟩
          · exact .inl ⟨g1, g2⟩
          · right
            refine ⟨g1, g2, by omega, g4, ?_⟩
            rw [g5, h5]
            cases q.bad <;> cases allT x <;> cases allL xs <;> rfl
    simp only [measT, walkT, allT]
    by_cases h1 : 200 < d
    · left
      rw [if_pos (by omega), if_pos h1]
      exact ⟨by omega, rfl⟩
    · rw [if_neg (by omega), if_neg h1]
      have ho1 := own_nonneg (.mk k n f s l)
      by_cases h2 : 65536 < q.words + ownT (.mk k n f s l)
      · left
        rw [if_pos (by omega), if_pos h2]
        exact ⟨by omega, rfl⟩
      · rw [if_neg (by omega), if_neg h2]
        have e : (201 - d : Int) - 1 = 201 - (d + 1) := by omega
        rw [e]
        rcases hl l (fun _ h => h) (d + 1) ⟨q.words + ownT (.mk k n f s l), max q.depth d, q.bad || !fieldsT (.mk k n f s l), q.over⟩ (ownT (.mk k n f s l)) (65536 - q.words) ho (by dsimp only; omega) ho1 (by dsimp only; omega) with ⟨g1, g2⟩ | ⟨g1, g2, g3, g4, g5⟩
        · exact .inl ⟨g1, g2⟩
        · right
          dsimp only at g3 g5
          refine ⟨g1, g2, by omega, g4, ?_⟩
          rw [g5]
          cases q.bad <;> cases fieldsT (.mk k n f s l) <;> cases allL l <;> rfl

end Go.Proofs.Ytdimmomjildpcaa
