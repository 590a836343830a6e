/- The table of half-links and the document's, side by side. -/
import Derived.Test.YtoofhccjjhhipaaVLinks4
namespace Go.Proofs.Ytoofhccjjhhipaa
open Go.RowKit
attribute [local irreducible] Ext

theorem blk_ne {w : World} {a b : Nat} {ca cb : Array Value} {ta tb : TypeId} {fa fb : Nat × Nat} (h1 : w.heap[a]? = some (.cells ca ta fa)) (h2 : w.heap[b]? = some (.cells cb tb fb)) (hne : ta ≠ tb) : a ≠ b := by
  rintro rfl
  rw [h1] at h2
  injection h2 with h
  injection h with _ e
  exact hne e

structure Two (W w : World) (lb tb rb : Nat) (Kt : List (Int × (Int × Int × Int))) (it : Int) (Kr : List (Int × (Int × Int × Int))) (ir : Int) : Prop where
  lt : LT w lb tb Kt it
  rt : ∃ v L, R14 w rb v L ir ∧ KL L = Kr ∧ ∀ k, v.ownBlock = some k → W.heap.size ≤ k
  below : Below W.heap.size W w
  hlb : W.heap.size ≤ lb
  htb : W.heap.size ≤ tb
  hrb : W.heap.size ≤ rb

theorem Two.ext {W w w' : World} {lb tb rb : Nat} {Kt Kr : List (Int × (Int × Int × Int))} {it ir : Int} (h : Two W w lb tb rb Kt it Kr ir) (hE : Ext w w') : Two W w' lb tb rb Kt it Kr ir := by
  obtain ⟨v, L, h1, h2, h3⟩ := h.rt
  exact ⟨h.lt.ext hE, ⟨v, L, h1.ext hE, h2, h3⟩, h.below.trans (hE.below.mono h.below.size), h.hlb, h.htb, h.hrb⟩

theorem TK.blk {w : World} {tb : Nat} {K : List (Int × (Int × Int × Int))} (h : TK w tb K) : ∃ cs fr, w.heap[tb]? = some (.cells cs 79 fr) := by
  obtain ⟨t, ⟨p, hp, _⟩, _⟩ := h
  exact ⟨_, _, hp⟩

/-- What no call of these writes. -/
def Kept (w w' : World) : Prop := ∀ (k : Nat) (cs : Array Value) (t : TypeId), w.heap[k]? = some (.cells cs t (0, 0)) → t ≠ 41 → t ≠ 79 → t ≠ 29 → t ≠ 36 → w'.heap[k]? = some (.cells cs t (0, 0))

theorem Two.l {W w w' : World} {lb tb rb : Nat} {Kt Kr K' : List (Int × (Int × Int × Int))} {it ir i' : Int} (h : Two W w lb tb rb Kt it Kr ir) (hP : LPost w w' lb tb K' i') : Two W w' lb tb rb K' i' Kr ir ∧ Kept w w' := by
  obtain ⟨v, L, h1, h2, h3⟩ := h.rt
  obtain ⟨cs, fr, hb⟩ := h.lt.tree.blk
  refine ⟨?_, fun k cs t hk n1 n2 n3 n4 => hP.2.keep hk ?_⟩
  rotate_left
  · rintro (rfl | rfl)
    · exact blk_ne hk h.lt.blk n1 rfl
    · exact blk_ne hk hb n2 rfl
  refine ⟨hP.1, ⟨v, L, ⟨hP.2.keep h1.blk ?_, h1.row.keep hP.2 ?_⟩, h2, h3⟩, h.below.trans (hP.2.below h.below.size ?_), h.hlb, h.htb, h.hrb⟩
  · rintro (e | e)
    · exact blk_ne h1.blk h.lt.blk (by decide) e
    · exact blk_ne h1.blk hb (by decide) e
  · intro k hk
    obtain ⟨cur, hc⟩ := own_blk h1.row hk
    rintro (e | e)
    · exact blk_ne hc h.lt.blk (by decide) e
    · exact blk_ne hc hb (by decide) e
  · rintro k (rfl | rfl)
    · exact h.hlb
    · exact h.htb

theorem Two.r {W w w' : World} {lb tb rb : Nat} {Kt Kr K' : List (Int × (Int × Int × Int))} {it ir i' : Int} (h : Two W w lb tb rb Kt it Kr ir) {v : Value} {L : List (Int × Int × Int)} (h1 : R14 w rb v L ir) (h3 : ∀ k, v.ownBlock = some k → W.heap.size ≤ k) (hP : Post14 w w' rb v i' K') : Two W w' lb tb rb Kt it K' i' ∧ Kept w w' := by
  obtain ⟨v', L', p1, p2, p3, p4⟩ := hP
  obtain ⟨cs, fr, hb⟩ := h.lt.tree.blk
  have hs := h.below.size
  have hF : ∀ k cs t fr, (k = rb ∨ some k = v.ownBlock) → w.heap[k]? = some (.cells cs t fr) → t = 29 ∨ t = 36 := by
    rintro k cs t fr (rfl | hk) he
    · rw [h1.blk] at he
      injection he with he
      injection he with _ e
      exact .inl e.symm
    · obtain ⟨cur, hc⟩ := own_blk h1.row hk.symm
      rw [hc] at he
      injection he with he
      injection he with _ e
      exact .inr e.symm
  refine ⟨?_, fun k cs t hk n1 n2 n3 n4 => p3.keep hk (fun hf => ?_)⟩
  rotate_left
  · rcases hF _ _ _ _ hf hk with e | e
    · exact n3 e
    · exact n4 e
  refine ⟨⟨p3.keep h.lt.blk (fun hf => ?_), ?_⟩, ⟨v', L', p1, p2, fun k hk => ?_⟩, h.below.trans (p3.below hs ?_), h.hlb, h.htb, h.hrb⟩
  · rcases hF _ _ _ _ hf h.lt.blk with e | e <;> exact absurd e (by decide)
  · obtain ⟨t, t1, t2, t3⟩ := h.lt.tree
    refine ⟨t, t1.keep p3 ?_ ?_, t2, t3⟩
    · intro k cs fr hf he
      rcases hF _ _ _ _ hf he with e | e <;> exact absurd e (by decide)
    · intro hf
      rcases hF _ _ _ _ hf hb with e | e <;> exact absurd e (by decide)
  · rcases p4 k hk with e | e
    · exact h3 k e.symm
    · omega
  · rintro k (rfl | hk)
    · exact h.hrb
    · exact h3 k hk.symm

theorem KL_len {L : List (Int × Int × Int)} {K : List (Int × (Int × Int × Int))} (h : KL L = K) {n : Nat} (hm : K.length ≤ n) : L.length ≤ n := by
  rw [← h, KL_length] at hm
  exact hm

section
variable {W w : World} {lb tb rb : Nat} {Kt Kr : List (Int × (Int × Int × Int))} {it ir : Int}

theorem tl_link (h : Two W w lb tb rb Kt it Kr ir) (pid : Int) (hm : Kt.length ≤ 1000000) :
    Calls Try.prog 25 #[.pointer (some ⟨lb, 0, none⟩), .int .i64 pid] w fun e w' => e = .returned (.bool (!decide ((lookR Kt pid).1.2.1 = 1))) ∧ Two W w' lb tb rb (if (lookR Kt pid).1.2.1 = 1 then Kt else ins pid (pid, 1, 0) Kt) it Kr ir ∧ Kept w w' :=
  (link_any pid w h.lt hm).mono fun _ _ hp => ⟨hp.1, h.l hp.2⟩

theorem tr_link (h : Two W w lb tb rb Kt it Kr ir) (pid : Int) (hm : Kr.length ≤ 1000000) (hr : Rising Kr) :
    Calls Try.prog 28 #[.pointer (some ⟨rb, 0, none⟩), .int .i64 pid] w fun e w' => e = .returned (.bool (!decide ((lookR Kr pid).1.2.1 = 1))) ∧ Two W w' lb tb rb Kt it (if (lookR Kr pid).1.2.1 = 1 then Kr else ins pid (pid, 1, 0) Kr) ir ∧ Kept w w' := by
  obtain ⟨v, L, h1, rfl, h3⟩ := h.rt
  exact (link14_any pid w h1 (KL_len rfl hm) hr).mono fun _ _ hp => ⟨hp.1, h.r h1 h3 hp.2⟩

theorem tl_onExit (h : Two W w lb tb rb Kt it Kr ir) (pid : Int) (hm : Kt.length ≤ 1000000) :
    Calls Try.prog 13 #[.pointer (some ⟨lb, 0, none⟩), .int .i64 pid] w fun e w' => e = .returned (.bool (decide ((lookR Kt pid).1.2.1 = 1))) ∧ Two W w' lb tb rb (if (lookR Kt pid).1.2.1 = 1 then del pid Kt else Kt) it Kr ir ∧ Kept w w' :=
  (onExit_any pid w h.lt hm).mono fun _ _ hp => ⟨hp.1, h.l hp.2⟩

theorem tl_onUnlink (h : Two W w lb tb rb Kt it Kr ir) (pid : Int) (hm : Kt.length ≤ 1000000) :
    Calls Try.prog 31 #[.pointer (some ⟨lb, 0, none⟩), .int .i64 pid] w fun e w' => (∃ u, e = .returned u) ∧ Two W w' lb tb rb (if (lookR Kt pid).1.2.1 = 1 then del pid Kt else Kt) it Kr ir ∧ Kept w w' :=
  (onUnlink_any pid w h.lt hm).mono fun _ _ hp => ⟨hp.1, h.l hp.2⟩

theorem tr_onExit (h : Two W w lb tb rb Kt it Kr ir) (pid : Int) (hm : Kr.length ≤ 1000000) (hr : Rising Kr) :
    Calls Try.prog 32 #[.pointer (some ⟨rb, 0, none⟩), .int .i64 pid] w fun e w' => e = .returned (.bool (decide ((lookR Kr pid).1.2.1 = 1))) ∧ Two W w' lb tb rb Kt it (if (lookR Kr pid).1.2.1 = 1 then del pid Kr else Kr) ir ∧ Kept w w' := by
  obtain ⟨v, L, h1, rfl, h3⟩ := h.rt
  exact (onExit14_any pid w h1 (KL_len rfl hm) hr).mono fun _ _ hp => ⟨hp.1, h.r h1 h3 hp.2⟩

theorem tl_onAck (h : Two W w lb tb rb Kt it Kr ir) (pid id : Int) (hm : Kt.length ≤ 1000000) :
    Calls Try.prog 26 #[.pointer (some ⟨lb, 0, none⟩), .int .i64 pid, .int .i64 id] w fun e w' => e = .returned (.bool (decide ((lookR Kt pid).1.2.1 = 2 ∧ (lookR Kt pid).1.2.2 = id))) ∧ Two W w' lb tb rb (if (lookR Kt pid).1.2.1 = 2 ∧ (lookR Kt pid).1.2.2 = id then del pid Kt else Kt) it Kr ir ∧ Kept w w' :=
  (onAck_any pid id w h.lt hm).mono fun _ _ hp => ⟨hp.1, h.l hp.2⟩

theorem tr_onAck (h : Two W w lb tb rb Kt it Kr ir) (pid id : Int) (hm : Kr.length ≤ 1000000) (hr : Rising Kr) :
    Calls Try.prog 33 #[.pointer (some ⟨rb, 0, none⟩), .int .i64 pid, .int .i64 id] w fun e w' => e = .returned (.bool (decide ((lookR Kr pid).1.2.1 = 2 ∧ (lookR Kr pid).1.2.2 = id))) ∧ Two W w' lb tb rb Kt it (if (lookR Kr pid).1.2.1 = 2 ∧ (lookR Kr pid).1.2.2 = id then del pid Kr else Kr) ir ∧ Kept w w' := by
  obtain ⟨v, L, h1, rfl, h3⟩ := h.rt
  exact (onAck14_any pid id w h1 (KL_len rfl hm) hr).mono fun _ _ hp => ⟨hp.1, h.r h1 h3 hp.2⟩

theorem tl_set (h : Two W w lb tb rb Kt it Kr ir) (pid : Int) (hm : Kt.length ≤ 1000000) :
    Calls Try.prog 34 #[.pointer (some ⟨lb, 0, none⟩), .int .i64 pid] w fun e w' => (∃ u, e = .returned u) ∧ Two W w' lb tb rb (ins pid (pid, 1, 0) Kt) it Kr ir ∧ Kept w w' :=
  (lset_any pid w h.lt hm).mono fun _ _ hp => ⟨hp.1, h.l hp.2⟩

theorem tr_set (h : Two W w lb tb rb Kt it Kr ir) (pid : Int) (hm : Kr.length ≤ 1000000) (hr : Rising Kr) :
    Calls Try.prog 35 #[.pointer (some ⟨rb, 0, none⟩), .int .i64 pid] w fun e w' => (∃ u, e = .returned u) ∧ Two W w' lb tb rb Kt it (ins pid (pid, 1, 0) Kr) ir ∧ Kept w w' := by
  obtain ⟨v, L, h1, rfl, h3⟩ := h.rt
  exact (set14_any pid w h1 (KL_len rfl hm) hr).mono fun _ _ hp => ⟨hp.1, h.r h1 h3 hp.2⟩

theorem tl_onLink (h : Two W w lb tb rb Kt it Kr ir) (pid : Int) (hm : Kt.length ≤ 1000000) :
    Calls Try.prog 29 #[.pointer (some ⟨lb, 0, none⟩), .int .i64 pid] w fun e w' => (∃ u, e = .returned u) ∧ Two W w' lb tb rb (if (lookR Kt pid).2 = true then Kt else ins pid (pid, 1, 0) Kt) it Kr ir ∧ Kept w w' :=
  (onLink_any pid w h.lt hm).mono fun _ _ hp => ⟨hp.1, h.l hp.2⟩

theorem tr_onLink (h : Two W w lb tb rb Kt it Kr ir) (pid : Int) (hm : Kr.length ≤ 1000000) (hr : Rising Kr) :
    Calls Try.prog 30 #[.pointer (some ⟨rb, 0, none⟩), .int .i64 pid] w fun e w' => (∃ u, e = .returned u) ∧ Two W w' lb tb rb Kt it (if (lookR Kr pid).2 = true then Kr else ins pid (pid, 1, 0) Kr) ir ∧ Kept w w' := by
  obtain ⟨v, L, h1, rfl, h3⟩ := h.rt
  exact (onLink14_any pid w h1 (KL_len rfl hm) hr).mono fun _ _ hp => ⟨hp.1, h.r h1 h3 hp.2⟩

theorem tl_unlink (h : Two W w lb tb rb Kt it Kr ir) (pid : Int) (hm : Kt.length ≤ 1000000) :
    Calls Try.prog 10 #[.pointer (some ⟨lb, 0, none⟩), .int .i64 pid] w fun e w' =>
      e = .returned (.tuple #[.int .i64 (if (lookR Kt pid).1.2.1 = 1 then IntKind.i64.wrap (it + 1) else 0), .bool (decide ((lookR Kt pid).1.2.1 = 1))]) ∧
      Two W w' lb tb rb (if (lookR Kt pid).1.2.1 = 1 then ins pid (pid, 2, IntKind.i64.wrap (it + 1)) Kt else Kt) (if (lookR Kt pid).1.2.1 = 1 then IntKind.i64.wrap (it + 1) else it) Kr ir ∧ Kept w w' := by
  refine (unlink_any pid w h.lt hm).mono fun _ _ hp => ?_
  by_cases h1 : (lookR Kt pid).1.2.1 = 1
  · simp only [if_pos h1] at hp ⊢
    rw [decide_eq_true h1]
    exact ⟨hp.1, h.l hp.2⟩
  · simp only [if_neg h1] at hp ⊢
    rw [decide_eq_false h1]
    exact ⟨hp.1, h.l hp.2⟩

/-- A half that is there is Linked or Unlinking. -/
def States (K : List (Int × (Int × Int × Int))) : Prop := ∀ x ∈ K, x.2.2.1 = 1 ∨ x.2.2.1 = 2

theorem tr_unlink (h : Two W w lb tb rb Kt it Kr ir) (pid : Int) (hm : Kr.length ≤ 1000000) (hr : Rising Kr) (hs : States Kr) :
    Calls Try.prog 11 #[.pointer (some ⟨rb, 0, none⟩), .int .i64 pid] w fun e w' =>
      e = .returned (.tuple #[.int .i64 (if (lookR Kr pid).1.2.1 = 1 then IntKind.i64.wrap (ir + 1) else 0), .bool (decide ((lookR Kr pid).1.2.1 = 1))]) ∧
      Two W w' lb tb rb Kt it (if (lookR Kr pid).1.2.1 = 1 then ins pid (pid, 2, IntKind.i64.wrap (ir + 1)) Kr else Kr) (if (lookR Kr pid).1.2.1 = 1 then IntKind.i64.wrap (ir + 1) else ir) ∧ Kept w w' := by
  obtain ⟨v, L, h1, rfl, h3⟩ := h.rt
  refine (unlink14_any pid w h1 (KL_len rfl hm) hr).mono fun _ _ hp => ?_
  by_cases hst : (lookR (KL L) pid).1.2.1 = 1
  · simp only [if_pos hst]
    rw [decide_eq_true hst]
    have := hp.2 (state_there hst (by decide)) (by rw [hst]; decide)
    exact ⟨this.1, h.r h1 h3 this.2⟩
  · simp only [if_neg hst]
    rw [decide_eq_false hst]
    have : (lookR (KL L) pid).2 = false ∨ (lookR (KL L) pid).1.2.1 = 2 := by
      cases hl : look pid (KL L) with
      | none => exact .inl (by unfold lookR; rw [hl])
      | some y =>
        right
        rcases hs _ (look_mem hl) with e | e
        · exact absurd (by unfold lookR; rw [hl]; exact e) hst
        · unfold lookR; rw [hl]; exact e
    have := hp.1 this
    exact ⟨this.1, h.r h1 h3 this.2⟩

/-- What is told by Pop. -/
def popR (K : List (Int × (Int × Int × Int))) : (Int × Int × Int) × Bool := match K with | [] => ((0, 0, 0), false) | x :: _ => (x.2, true)

theorem tl_pop (h : Two W w lb tb rb Kt it Kr ir) (hm : Kt.length ≤ 1000000) (hk : ∀ x ∈ Kt, -9223372036854775808 ≤ x.1) :
    Calls Try.prog 36 #[.pointer (some ⟨lb, 0, none⟩)] w fun e w' => e = .returned (.tuple #[.agg #[.int .i64 ((popR Kt).1).1, .int .i64 ((popR Kt).1).2.1, .int .i64 ((popR Kt).1).2.2], .bool (popR Kt).2]) ∧ Two W w' lb tb rb Kt.tail it Kr ir ∧ Kept w w' := by
  refine (lpop_any w h.lt hm hk).mono fun _ _ hp => ?_
  cases Kt with
  | nil => exact ⟨(hp.1 rfl).1, h.l (hp.1 rfl).2⟩
  | cons x K => exact ⟨(hp.2 x K rfl).1, h.l (hp.2 x K rfl).2⟩

theorem tr_pop (h : Two W w lb tb rb Kt it Kr ir) (hm : Kr.length ≤ 1000000) :
    Calls Try.prog 37 #[.pointer (some ⟨rb, 0, none⟩)] w fun e w' => e = .returned (.tuple #[.agg #[.int .i64 ((popR Kr).1).1, .int .i64 ((popR Kr).1).2.1, .int .i64 ((popR Kr).1).2.2], .bool (popR Kr).2]) ∧ Two W w' lb tb rb Kt it Kr.tail ir ∧ Kept w w' := by
  obtain ⟨v, L, h1, rfl, h3⟩ := h.rt
  refine (pop14_any w h1 (KL_len rfl hm)).mono fun _ _ hp => ?_
  cases L with
  | nil => exact ⟨(hp.1 rfl).1, h.r h1 h3 (hp.1 rfl).2⟩
  | cons x L => exact ⟨(hp.2 x L rfl).1, h.r h1 h3 (hp.2 x L rfl).2⟩
theorem tr_pop_box (h : Two W w lb tb rb Kt it Kr ir) (hm : Kr.length ≤ 1000000) (y : (Int × Int × Int)) :
    Calls Try.prog 37 #[.pointer (some ⟨rb, 0, none⟩)] (w.alloc (.cells #[.int .i64 y.1, .int .i64 y.2.1, .int .i64 y.2.2] 36)) fun e w' => e = .returned (.tuple #[.agg #[.int .i64 ((popR Kr).1).1, .int .i64 ((popR Kr).1).2.1, .int .i64 ((popR Kr).1).2.2], .bool (popR Kr).2]) ∧ Two W w' lb tb rb Kt it Kr.tail ir ∧ Box3 w' w.heap.size y := by
  have hE : Ext w (w.alloc (.cells #[.int .i64 y.1, .int .i64 y.2.1, .int .i64 y.2.2] 36)) := (Ext.refl w).alloc _
  obtain ⟨v, L, h1, rfl, h3⟩ := h.rt
  have hlt := h1.row.lt
  have hbl := heap_lt h1.blk
  have hz : Box3 (w.alloc (.cells #[.int .i64 y.1, .int .i64 y.2.1, .int .i64 y.2.2] 36)) w.heap.size y := heap_alloc_new w _
  refine (pop14_any _ (h1.ext hE) (KL_len rfl hm)).mono fun _ w' hp => ?_
  have hk : ∀ {i' : Int} {K' : List (Int × (Int × Int × Int))}, Post14 (w.alloc (.cells #[.int .i64 y.1, .int .i64 y.2.1, .int .i64 y.2.2] 36)) w' rb v i' K' → Box3 w' w.heap.size y := by
    rintro i' K' ⟨_, _, _, _, hM, _⟩
    refine hM.keep hz ?_
    rintro (e | e)
    · omega
    · have := hlt _ e.symm
      omega
  cases L with
  | nil => exact ⟨(hp.1 rfl).1, ((h.ext hE).r (h1.ext hE) h3 (hp.1 rfl).2).1, hk (hp.1 rfl).2⟩
  | cons x L => exact ⟨(hp.2 x L rfl).1, ((h.ext hE).r (h1.ext hE) h3 (hp.2 x L rfl).2).1, hk (hp.2 x L rfl).2⟩
end

end Go.Proofs.Ytoofhccjjhhipaa
