/- Two inboxes side by side. -/
import Derived.Test.YteiognkbkpidiaaInPut3
namespace Go.Proofs.Yteiognkbkpidiaa
open Go.RowKit
attribute [local irreducible] Ext
attribute [local go_sem] run_store_float

/-- Two boxes; neither's blocks are the other's, and neither's are those of `o`. -/
structure Duo (o : Nat → Prop) (w : World) (b : Nat) (mb wb pb : Int) (lb : List Tm) (c : Nat) (mc wc pc : Int) (lc : List Tm) : Prop where
  parts : ∃ Sb Sc vb vc eb ec, BoxV w Sb b mb wb pb vb eb ∧ eb.map Prod.fst = lb ∧ BoxV w Sc c mc wc pc vc ec ∧ ec.map Prod.fst = lc ∧ (∀ k, Sb k → k < w.heap.size ∧ ¬ Sc k ∧ ¬ o k) ∧ (∀ k, Sc k → k < w.heap.size ∧ ¬ o k)
  old : ∀ k, o k → k < w.heap.size

section
variable {o : Nat → Prop} {w w' : World} {b : Nat} {mb wb pb : Int} {lb : List Tm} {c : Nat} {mc wc pc : Int} {lc : List Tm}

theorem Duo.swap (h : Duo o w b mb wb pb lb c mc wc pc lc) : Duo o w c mc wc pc lc b mb wb pb lb := by
  obtain ⟨⟨Sb, Sc, vb, vc, eb, ec, hb, h1, hc, h2, h3, h4⟩, h5⟩ := h
  exact ⟨⟨Sc, Sb, vc, vb, ec, eb, hc, h2, hb, h1, fun k hk => ⟨(h4 k hk).1, fun e => (h3 k e).2.1 hk, (h4 k hk).2⟩, fun k hk => ⟨(h3 k hk).1, (h3 k hk).2.2⟩⟩, h5⟩

theorem Duo.ext (h : Duo o w b mb wb pb lb c mc wc pc lc) (hE : Ext w w') : Duo o w' b mb wb pb lb c mc wc pc lc := by
  have hs := hE.size
  obtain ⟨⟨Sb, Sc, vb, vc, eb, ec, hb, h1, hc, h2, h3, h4⟩, h5⟩ := h
  exact ⟨⟨Sb, Sc, vb, vc, eb, ec, hb.ext hE, h1, hc.ext hE, h2, fun k hk => ⟨by have := (h3 k hk).1; omega, (h3 k hk).2⟩, fun k hk => ⟨by have := (h4 k hk).1; omega, (h4 k hk).2⟩⟩, fun k hk => by have := h5 k hk; omega⟩

/-- A block more that is not theirs. -/
theorem Duo.more (h : Duo o w b mb wb pb lb c mc wc pc lc) (hE : Ext w w') (x : Nat) (hx : w.heap.size ≤ x) (hx' : x < w'.heap.size) : Duo (fun k => o k ∨ k = x) w' b mb wb pb lb c mc wc pc lc := by
  have hs := hE.size
  obtain ⟨⟨Sb, Sc, vb, vc, eb, ec, hb, h1, hc, h2, h3, h4⟩, h5⟩ := h
  refine ⟨⟨Sb, Sc, vb, vc, eb, ec, hb.ext hE, h1, hc.ext hE, h2, fun k hk => ⟨by have := (h3 k hk).1; omega, (h3 k hk).2.1, ?_⟩, fun k hk => ⟨by have := (h4 k hk).1; omega, ?_⟩⟩, fun k hk => ?_⟩
  · rintro (e | e)
    · exact (h3 k hk).2.2 e
    · have := (h3 k hk).1; omega
  · rintro (e | e)
    · exact (h4 k hk).2 e
    · have := (h4 k hk).1; omega
  · rcases hk with hk | hk
    · have := h5 k hk; omega
    · omega

/-- The first box turned, the second one stays. -/
theorem duo_step {Sb Sc : Nat → Prop} {vc : Value} {ec : List El} {mb' wb' pb' : Int} {vb' : Value} {eb' : List El} {lb' : List Tm} {S' : Nat → Prop} (hc : BoxV w Sc c mc wc pc vc ec) (h2 : ec.map Prod.fst = lc) (h3 : ∀ k, Sb k → k < w.heap.size ∧ ¬ Sc k ∧ ¬ o k) (h4 : ∀ k, Sc k → k < w.heap.size ∧ ¬ o k) (h5 : ∀ k, o k → k < w.heap.size)
    (hb : BoxV w' S' b mb' wb' pb' vb' eb') (hS : ∀ k, S' k → Sb k ∨ w.heap.size ≤ k) (h1 : eb'.map Prod.fst = lb') (hM : Mod Sb w w') : Duo o w' b mb' wb' pb' lb' c mc wc pc lc ∧ Mod (fun k => ¬ o k) w w' := by
  have hs := hM.size
  refine ⟨⟨⟨fun k => S' k ∧ k < w'.heap.size, Sc, vb', vc, eb', ec, hb.bound, h1, hc.keep hM (fun k e f => (h3 k e).2.1 f), h2, fun k hk => ⟨hk.2, fun e => ?_, fun e => ?_⟩, fun k hk => ⟨by have := (h4 k hk).1; omega, (h4 k hk).2⟩⟩, fun k hk => by have := h5 k hk; omega⟩, hM.mono (fun k _ hk => (h3 k hk).2.2)⟩
  · rcases hS k hk.1 with h | h
    · exact (h3 k h).2.1 e
    · have := (h4 k e).1; omega
  · rcases hS k hk.1 with h | h
    · exact (h3 k h).2.2 e
    · have := h5 k e; omega

theorem duo_new (hn : b ≠ c) (ho : ∀ k, o k → k < w.heap.size ∧ k ≠ b ∧ k ≠ c) (hb : w.heap[b]? = some (.cells #[.int .i64 mb, .int .i64 0, .slice none 0 0, .int .i64 0] 59 (0, 0))) (hc : w.heap[c]? = some (.cells #[.int .i64 mc, .int .i64 0, .slice none 0 0, .int .i64 0] 59 (0, 0))) : Duo o w b mb 0 0 [] c mc 0 0 [] :=
  ⟨⟨fun k => k = b, fun k => k = c, _, _, [], [], ⟨hb, rfl, TRow.nil _ _⟩, rfl, ⟨hc, rfl, TRow.nil _ _⟩, rfl, fun k e => ⟨e ▸ heap_lt hb, fun f => hn (e ▸ f), fun f => (ho k f).2.1 e⟩, fun k e => ⟨e ▸ heap_lt hc, fun f => (ho k f).2.2 e⟩⟩, fun k e => (ho k e).1⟩
end

theorem eb_erase (eb : List El) (p : Nat) : (eb.eraseIdx p).map Prod.fst = (eb.map Prod.fst).eraseIdx p := by
  induction eb generalizing p with
  | nil => simp
  | cons x xs ih => cases p <;> simp [ih]

/-- A term of a number. -/
def tI (n : Int) : Tm := .mk 1 n 0 ⟨#[]⟩ []

theorem tI_all (n : Int) (h0 : 0 ≤ n) (h1 : n ≤ 1000) : cntT (tI n) ≤ 100000000 ∧ okT (tI n) ∧ checkT (tI n) = 0 ∧ wordsT (tI n) = 0 := by
  have hm : measT (tI n) 200 65536 = 0 := by
    simp [tI, measT, measL, ownT, ownV, Tm.kind]
  have ha : allT (tI n) = true := by
    have b1 : decide (-576460752303423488 ≤ n) = true := decide_eq_true (by omega)
    have b2 : decide (n ≤ 576460752303423487) = true := decide_eq_true (by omega)
    unfold tI allT allL fieldsT fieldsV numV
    rw [Tm.kind, Tm.n, b1, b2, if_pos (by decide), if_pos rfl]
    simp [Tm.s, Tm.l, Tm.f]
  have hc : checkT (tI n) = 0 := by simp [checkT, hm, ha]
  refine ⟨?_, ?_, hc, ?_⟩
  · simp [tI, cntT, cntL]
  · simp [tI, okT, okL]
  · simp [wordsT, hc, hm]

theorem tI_v (w : World) (n : Int) : TmV w true (fun _ => False) (.agg #[.int .i64 1, .int .i64 n, .float .f64 0, .string ⟨#[]⟩, .slice none 0 0]) (tI n) := TmV.of_parts (l := []) (so := none) (cap := 0) (by unfold RowIn; trivial)

section
variable {o : Nat → Prop} {w : World} {b : Nat} {mb wb pb : Int} {lb : List Tm} {c : Nat} {mc wc pc : Int} {lc : List Tm}

def DuoPost (o : Nat → Prop) (w : World) (b : Nat) (mb wb pb : Int) (lb : List Tm) (c : Nat) (mc wc pc : Int) (lc : List Tm) (w' : World) : Prop := Duo o w' b mb wb pb lb c mc wc pc lc ∧ Mod (fun k => ¬ o k) w w'

theorem duo_put (h : Duo o w b mb wb pb lb c mc wc pc lc) (n : Int) (h0 : 0 ≤ n) (h1 : n ≤ 1000) (hl : lb.length ≤ 1000) (hw0 : 0 ≤ wb) (hw1 : wb ≤ 1000000) (hov : wb + 2 ≤ mb) :
    Calls Try.prog 10 #[.pointer (some ⟨b, 0, none⟩), .agg #[.int .i64 1, .int .i64 n, .float .f64 0, .string ⟨#[]⟩, .slice none 0 0]] w fun e w' => e = .returned (.int .i64 0) ∧ DuoPost o w b mb (wb + 2) pb (lb ++ [tI n]) c mc wc pc lc w' := by
  obtain ⟨⟨Sb, Sc, vb, vc, eb, ec, hb, e1, hc, e2, h3, h4⟩, h5⟩ := h
  obtain ⟨t1, t2, t3, t4⟩ := tI_all n h0 h1
  have hlen : eb.length ≤ 100000000 := by have := congrArg List.length e1; rw [List.length_map] at this; omega
  refine (put_ok w hb (tI_v w n) (fun _ h => h.elim) t1 t2 t3 hlen hw0 (by omega) (by rw [t4]; omega)).mono ?_
  rintro e w' ⟨rfl, v', so, cap, hb', hM⟩
  rw [t4, Int.zero_add] at hb'
  exact ⟨rfl, duo_step hc e2 h3 h4 h5 hb' (fun k h => h) (by simp [e1]) hM⟩

theorem duo_full (h : Duo o w b mb wb pb lb c mc wc pc lc) (n : Int) (h0 : 0 ≤ n) (h1 : n ≤ 1000) (hw0 : 0 ≤ wb) (hw1 : wb ≤ 1000000) (hov : mb < wb + 2) :
    Calls Try.prog 10 #[.pointer (some ⟨b, 0, none⟩), .agg #[.int .i64 1, .int .i64 n, .float .f64 0, .string ⟨#[]⟩, .slice none 0 0]] w fun e w' => e = .returned (.int .i64 12) ∧ Ext w w' := by
  obtain ⟨⟨Sb, Sc, vb, vc, eb, ec, hb, e1, hc, e2, h3, h4⟩, h5⟩ := h
  obtain ⟨t1, t2, t3, t4⟩ := tI_all n h0 h1
  exact put_over w hb (tI_v w n) t1 t2 t3 hw0 (by omega) (by rw [t4]; simpa using hov)

theorem duo_next (h : Duo o w b mb wb pb lb c mc wc pc lc) {p : Nat} (hp : pb = (p : Int)) {n : Int} (he : lb[p]? = some (tI n)) (hl : lb.length ≤ 1000) :
    Calls Try.prog 11 #[.pointer (some ⟨b, 0, none⟩)] w fun e w' => ∃ so cap, e = .returned (.tuple #[.agg #[.int .i64 1, .int .i64 n, .float .f64 0, .string ⟨#[]⟩, .slice so 0 cap], .bool true]) ∧ DuoPost o w b mb wb (pb + 1) lb c mc wc pc lc w' := by
  obtain ⟨⟨Sb, Sc, vb, vc, eb, ec, hb, e1, hc, e2, h3, h4⟩, h5⟩ := h
  subst hp
  have hlen : eb.length ≤ 100000000 := by have := congrArg List.length e1; rw [List.length_map] at this; omega
  rw [← e1, List.getElem?_map] at he
  cases hx : eb[p]? with
  | none => rw [hx] at he; simp at he
  | some x =>
    rw [hx] at he
    obtain ⟨t, so0, cap0⟩ := x
    obtain rfl : t = tI n := by simpa using he
    refine (next_some w hb hx hlen (by simp [tI, cntT, cntL])).mono ?_
    rintro e w' ⟨so, cap, rfl, _, hb', hM⟩
    exact ⟨so, cap, rfl, duo_step hc e2 h3 h4 h5 hb' (fun k h => .inl h) e1 hM⟩

theorem duo_take (h : Duo o w b mb wb pb lb c mc wc pc lc) {p : Nat} (hp : pb = (p : Int) + 1) {n : Int} (he : lb[p]? = some (tI n)) (h0 : 0 ≤ n) (h1 : n ≤ 1000) (hl : lb.length ≤ 1000) (hw0 : 0 ≤ wb) (hw1 : wb ≤ 1000000) :
    Calls Try.prog 13 #[.pointer (some ⟨b, 0, none⟩)] w fun e w' => ∃ so cap, e = .returned (.tuple #[.agg #[.int .i64 1, .int .i64 n, .float .f64 0, .string ⟨#[]⟩, .slice so 0 cap], .int .i64 0]) ∧ DuoPost o w b mb (wb - 2) 0 (lb.eraseIdx p) c mc wc pc lc w' := by
  obtain ⟨⟨Sb, Sc, vb, vc, eb, ec, hb, e1, hc, e2, h3, h4⟩, h5⟩ := h
  subst hp
  obtain ⟨t1, t2, t3, t4⟩ := tI_all n h0 h1
  have hlen : eb.length ≤ 100000000 := by have := congrArg List.length e1; rw [List.length_map] at this; omega
  have he0 := he
  rw [← e1, List.getElem?_map] at he
  cases hx : eb[p]? with
  | none => rw [hx] at he; simp at he
  | some x =>
    rw [hx] at he
    obtain ⟨t, so0, cap0⟩ := x
    obtain rfl : t = tI n := by simpa using he
    refine (take_some w hb hx hlen t1 t2 (by omega) (by omega)).mono ?_
    rintro e w' ⟨rfl, v', hb', _, hM⟩
    have t4' : wordsT (tI n, so0, cap0).1 = 0 := t4
    rw [t4', Int.zero_add] at hb'
    exact ⟨so0, cap0, rfl, duo_step hc e2 h3 h4 h5 hb' (fun k h => .inl h) (by rw [← e1]; exact (eb_erase eb p)) hM⟩

theorem duo_next0 {n : Int} {l : List Tm} (h : Duo o w b mb wb 0 (tI n :: l) c mc wc pc lc) (hl : l.length ≤ 900) :
    Calls Try.prog 11 #[.pointer (some ⟨b, 0, none⟩)] w fun e w' => ∃ so cap, e = .returned (.tuple #[.agg #[.int .i64 1, .int .i64 n, .float .f64 0, .string ⟨#[]⟩, .slice so 0 cap], .bool true]) ∧ DuoPost o w b mb wb 1 (tI n :: l) c mc wc pc lc w' :=
  duo_next h (p := 0) rfl rfl (by simp; omega)

theorem duo_next1 {m n : Int} {l : List Tm} (h : Duo o w b mb wb 1 (tI m :: tI n :: l) c mc wc pc lc) (hl : l.length ≤ 900) :
    Calls Try.prog 11 #[.pointer (some ⟨b, 0, none⟩)] w fun e w' => ∃ so cap, e = .returned (.tuple #[.agg #[.int .i64 1, .int .i64 n, .float .f64 0, .string ⟨#[]⟩, .slice so 0 cap], .bool true]) ∧ DuoPost o w b mb wb 2 (tI m :: tI n :: l) c mc wc pc lc w' :=
  duo_next h (p := 1) rfl rfl (by simp; omega)

theorem duo_take1 {m n : Int} {l : List Tm} (h : Duo o w b mb wb 2 (tI m :: tI n :: l) c mc wc pc lc) (h0 : 0 ≤ n) (h1 : n ≤ 1000) (hl : l.length ≤ 900) (hw0 : 0 ≤ wb) (hw1 : wb ≤ 1000000) :
    Calls Try.prog 13 #[.pointer (some ⟨b, 0, none⟩)] w fun e w' => ∃ so cap, e = .returned (.tuple #[.agg #[.int .i64 1, .int .i64 n, .float .f64 0, .string ⟨#[]⟩, .slice so 0 cap], .int .i64 0]) ∧ DuoPost o w b mb (wb - 2) 0 (tI m :: l) c mc wc pc lc w' :=
  duo_take h (p := 1) rfl rfl h0 h1 (by simp; omega) hw0 hw1

theorem duo_len (h : Duo o w b mb wb pb lb c mc wc pc lc) : Calls Try.prog 14 #[.pointer (some ⟨b, 0, none⟩)] w fun e w' => e = .returned (.int .i64 lb.length) ∧ w = w' := by
  obtain ⟨⟨Sb, Sc, vb, vc, eb, ec, hb, e1, hc, e2, h3, h4⟩, h5⟩ := h
  subst e1
  rw [List.length_map]
  exact blen_any hb

theorem duo_words (h : Duo o w b mb wb pb lb c mc wc pc lc) : Calls Try.prog 21 #[.pointer (some ⟨b, 0, none⟩)] w fun e w' => e = .returned (.int .i64 wb) ∧ w = w' := by
  obtain ⟨⟨Sb, Sc, vb, vc, eb, ec, hb, e1, hc, e2, h3, h4⟩, h5⟩ := h
  exact bwords_any hb
end

end Go.Proofs.Yteiognkbkpidiaa
