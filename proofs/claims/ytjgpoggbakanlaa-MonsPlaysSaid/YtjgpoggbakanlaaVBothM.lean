/- The table of monitors and the document's, side by side. -/
import Derived.Test.YtjgpoggbakanlaaVRef15e
import Derived.Test.YtjgpoggbakanlaaVMons3
import Derived.Test.YtjgpoggbakanlaaVSameM
namespace Go.Proofs.Ytjgpoggbakanlaa
open Go.RowKit
attribute [local irreducible] Ext

theorem blk_ne {w : World} {a b : Nat} {ca cb : Array Value} {ta tb : TypeId} {fa fb : Nat × Nat} (h1 : w.heap[a]? = some (.cells ca ta fa)) (h2 : w.heap[b]? = some (.cells cb tb fb)) (hne : ta ≠ tb) : a ≠ b := by
  rintro rfl
  rw [h1] at h2
  injection h2 with h
  injection h with _ e
  exact hne e

/-- The table by what its trees hold. -/
def MK (w : World) (mb ob gb : Nat) (K1 K2 : List (Int × (Int × Int × ByteArray))) : Prop := ∃ t u, MAt w mb ob gb t u ∧ t.list = K1 ∧ u.list = K2

theorem getR_lookR {t : Tr (Int × Int × ByteArray)} (hs : t.sorted) (key : Int) : getR t key = lookR t.list key := by
  unfold getR lookR
  rw [Tr.get_look key hs]
  cases look key t.list <;> rfl

theorem bad_badK {t : Tr (Int × Int × ByteArray)} (hs : t.sorted) (m : (Int × Int × ByteArray)) : bad t m = badK t.list m := by
  unfold bad badK
  rw [getR_lookR hs]

theorem put1_putK {t : Tr (Int × Int × ByteArray)} (hs : t.sorted) (m : (Int × Int × ByteArray)) : (put1 t m).list = putK t.list m := by
  unfold put1 putK
  rw [bad_badK hs]
  split
  · rfl
  · exact Tr.list_put hs

theorem first_popR {K : List (Int × (Int × Int × ByteArray))} (hr : Rising K) : lookR K (firstK K) = popR K ∧ del (firstK K) K = K.tail := by
  cases K with
  | nil => exact ⟨rfl, rfl⟩
  | cons x K =>
    have h1 := look_of_mem hr (y := x) (by simp)
    refine ⟨?_, ?_⟩
    · unfold lookR firstK popR
      rw [h1]
    · simp [firstK, del]

/-- Both; what the document's rows lie in is none of X. -/
structure Two (X : Nat → Prop) (W w : World) (mb ob gb rb : Nat) (K1 K2 Q1 Q2 : List (Int × (Int × Int × ByteArray))) : Prop where
  mt : MK w mb ob gb K1 K2
  rt : ∃ v1 v2 L1 L2, R15 w rb v1 v2 L1 L2 ∧ KL L1 = Q1 ∧ KL L2 = Q2 ∧ (∀ k, v1.ownBlock = some k → W.heap.size ≤ k ∧ ¬ X k) ∧ (∀ k, v2.ownBlock = some k → W.heap.size ≤ k ∧ ¬ X k)
  below : Below W.heap.size W w
  hob : W.heap.size ≤ ob
  hgb : W.heap.size ≤ gb
  hrb : W.heap.size ≤ rb

theorem Two.ext {X : Nat → Prop} {W w w' : World} {mb ob gb rb : Nat} {K1 K2 Q1 Q2 : List (Int × (Int × Int × ByteArray))} (h : Two X W w mb ob gb rb K1 K2 Q1 Q2) (hE : Ext w w') : Two X W w' mb ob gb rb K1 K2 Q1 Q2 := by
  obtain ⟨v1, v2, L1, L2, h1, h2⟩ := h.rt
  obtain ⟨t, u, h3, h4⟩ := h.mt
  exact ⟨⟨t, u, h3.ext hE, h4⟩, ⟨v1, v2, L1, L2, h1.ext hE, h2⟩, h.below.trans (hE.below.mono h.below.size), h.hob, h.hgb, h.hrb⟩

theorem Two.weak {X Y : Nat → Prop} {W w : World} {mb ob gb rb : Nat} {K1 K2 Q1 Q2 : List (Int × (Int × Int × ByteArray))} (h : Two X W w mb ob gb rb K1 K2 Q1 Q2) (hY : ∀ k, Y k → X k) : Two Y W w mb ob gb rb K1 K2 Q1 Q2 := by
  obtain ⟨v1, v2, L1, L2, h1, h2, h3, h4, h5⟩ := h.rt
  exact ⟨h.mt, ⟨v1, v2, L1, L2, h1, h2, h3, fun k hk => ⟨(h4 k hk).1, fun y => (h4 k hk).2 (hY k y)⟩, fun k hk => ⟨(h5 k hk).1, fun y => (h5 k hk).2 (hY k y)⟩⟩, h.below, h.hob, h.hgb, h.hrb⟩

/-- What is not there yet is none of theirs. -/
theorem Two.more {X Y : Nat → Prop} {W w : World} {mb ob gb rb : Nat} {K1 K2 Q1 Q2 : List (Int × (Int × Int × ByteArray))} (h : Two X W w mb ob gb rb K1 K2 Q1 Q2) (hY : ∀ k, Y k → w.heap.size ≤ k) : Two Y W w mb ob gb rb K1 K2 Q1 Q2 := by
  obtain ⟨v1, v2, L1, L2, h1, h2, h3, h4, h5⟩ := h.rt
  exact ⟨h.mt, ⟨v1, v2, L1, L2, h1, h2, h3, fun k hk => ⟨(h4 k hk).1, fun y => by have := hY k y; have := h1.r1.lt k hk; omega⟩, fun k hk => ⟨(h5 k hk).1, fun y => by have := hY k y; have := h1.r2.lt k hk; omega⟩⟩, h.below, h.hob, h.hgb, h.hrb⟩

theorem Two.rising {X : Nat → Prop} {W w : World} {mb ob gb rb : Nat} {K1 K2 Q1 Q2 : List (Int × (Int × Int × ByteArray))} (h : Two X W w mb ob gb rb K1 K2 Q1 Q2) : Rising K1 ∧ Rising K2 := by
  obtain ⟨t, u, h3, rfl, rfl⟩ := h.mt
  exact ⟨Tr.sorted_rising h3.st, Tr.sorted_rising h3.su⟩

/-- What no call of these writes. -/
def Kept (w w' : World) : Prop := ∀ (k : Nat) (cs : Array Value) (t : TypeId), w.heap[k]? = some (.cells cs t (0, 0)) → t ≠ 85 → t ≠ 41 → w'.heap[k]? = some (.cells cs t (0, 0))

theorem kept_tree {w w' : World} {tb : Nat} {t : Tr (Int × Int × ByteArray)} (ht : TreeAt w tb t) (hM : Mod (fun k => k = tb) w w') : Kept w w' := by
  obtain ⟨p, hp, _⟩ := ht
  exact fun k cs t hk n1 n2 => hM.keep hk (fun e => blk_ne hk hp n1 e)

theorem R15.mod {w w' : World} {b tb : Nat} {t : Tr (Int × Int × ByteArray)} {v1 v2 : Value} {L1 L2 : List (Int × Int × ByteArray)} (h : R15 w b v1 v2 L1 L2) (ht : TreeAt w tb t) (hM : Mod (fun k => k = tb) w w') : R15 w' b v1 v2 L1 L2 := by
  obtain ⟨p, hp, _⟩ := ht
  refine ⟨hM.keep h.blk (fun e => blk_ne h.blk hp (by decide) e), h.r1.keep hM (fun k hk e => ?_), h.r2.keep hM (fun k hk e => ?_)⟩
  · obtain ⟨cur, hc⟩ := own_blk h.r1 hk
    exact blk_ne hc hp (by decide) e
  · obtain ⟨cur, hc⟩ := own_blk h.r2 hk
    exact blk_ne hc hp (by decide) e

section
variable {X : Nat → Prop} {W w : World} {mb ob gb rb : Nat} {K1 K2 Q1 Q2 : List (Int × (Int × Int × ByteArray))}

theorem Two.o {w' : World} (h : Two X W w mb ob gb rb K1 K2 Q1 Q2) {t : Tr (Int × Int × ByteArray)} (ht : TreeAt w ob t) (hM : Mod (fun k => k = ob) w w') {K1' K2' : List (Int × (Int × Int × ByteArray))} (hk : MK w' mb ob gb K1' K2') : Two X W w' mb ob gb rb K1' K2' Q1 Q2 ∧ Kept w w' := by
  obtain ⟨v1, v2, L1, L2, h1, h2⟩ := h.rt
  exact ⟨⟨hk, ⟨v1, v2, L1, L2, h1.mod ht hM, h2⟩, h.below.trans (hM.below h.below.size (fun k e => by have := h.hob; omega)), h.hob, h.hgb, h.hrb⟩, kept_tree ht hM⟩

theorem Two.g {w' : World} (h : Two X W w mb ob gb rb K1 K2 Q1 Q2) {t : Tr (Int × Int × ByteArray)} (ht : TreeAt w gb t) (hM : Mod (fun k => k = gb) w w') {K1' K2' : List (Int × (Int × Int × ByteArray))} (hk : MK w' mb ob gb K1' K2') : Two X W w' mb ob gb rb K1' K2' Q1 Q2 ∧ Kept w w' := by
  obtain ⟨v1, v2, L1, L2, h1, h2⟩ := h.rt
  exact ⟨⟨hk, ⟨v1, v2, L1, L2, h1.mod ht hM, h2⟩, h.below.trans (hM.below h.below.size (fun k e => by have := h.hgb; omega)), h.hob, h.hgb, h.hrb⟩, kept_tree ht hM⟩

theorem MAt.mod {w' : World} {t u : Tr (Int × Int × ByteArray)} (h : MAt w mb ob gb t u) (hM : Mod (fun k => k = rb) w w') {cs : Array Value} (hb : w.heap[rb]? = some (.cells cs 41 (0, 0))) : MAt w' mb ob gb t u := by
  have hn : ∀ k cs fr, k = rb → w.heap[k]? ≠ some (.cells cs 104 fr) := by
    rintro k cs fr rfl hk
    exact blk_ne hk hb (by decide) rfl
  have hn2 : ∀ {b t}, TreeAt w b t → b ≠ rb := by
    rintro b t ⟨p, hp, _⟩ e
    exact blk_ne hp hb (by decide) e
  exact ⟨hM.keep h.tab (fun e => blk_ne h.tab hb (by decide) e), h.org.keep hM hn (hn2 h.org), h.tgt.keep hM hn (hn2 h.tgt), h.apart, h.st, h.su, h.kt, h.ku⟩

theorem Two.r {w' : World} (h : Two X W w mb ob gb rb K1 K2 Q1 Q2) (hX : ∀ k, X k → k < w.heap.size) {v1 v2 : Value} {L1 L2 : List (Int × Int × ByteArray)} (h1 : R15 w rb v1 v2 L1 L2) (h4 : ∀ k, v1.ownBlock = some k → W.heap.size ≤ k ∧ ¬ X k) (h5 : ∀ k, v2.ownBlock = some k → W.heap.size ≤ k ∧ ¬ X k)
    {Q1' Q2' : List (Int × (Int × Int × ByteArray))} (hP : Post15 w w' rb v1 v2 Q1' Q2') : Two X W w' mb ob gb rb K1 K2 Q1' Q2' ∧ Kept w w' := by
  obtain ⟨v1', v2', L1', L2', p1, p2, p3, hM, p5, p6⟩ := hP
  obtain ⟨t, u, m1, m2⟩ := h.mt
  have hs := h.below.size
  refine ⟨⟨⟨t, u, m1.mod hM h1.blk, m2⟩, ⟨v1', v2', L1', L2', p1, p2, p3, fun k hk => ?_, fun k hk => ?_⟩, h.below.trans (hM.below h.below.size (fun k e => by have := h.hrb; omega)), h.hob, h.hgb, h.hrb⟩, fun k cs t hk n1 n2 => hM.keep hk (fun e => blk_ne hk h1.blk n2 e)⟩
  · rcases p5 k hk with e | e
    · exact h4 k e.symm
    · exact ⟨by omega, fun x => by have := hX k x; omega⟩
  · rcases p6 k hk with e | e
    · exact h5 k e.symm
    · exact ⟨by omega, fun x => by have := hX k x; omega⟩

theorem KL_len {L : List (Int × Int × ByteArray)} {K : List (Int × (Int × Int × ByteArray))} (h : KL L = K) {n : Nat} (hm : K.length ≤ n) : L.length ≤ n := by
  rw [← h, KL_length] at hm
  exact hm

theorem many_lt {t : Tr (Int × Int × ByteArray)} {K : List (Int × (Int × Int × ByteArray))} (h : t.list = K) (hm : K.length ≤ 1000000) : t.many < 1000000000 := by
  rw [Tr.many_list, h]
  omega

theorem tm_watch (h : Two X W w mb ob gb rb K1 K2 Q1 Q2) (ref pid : Int) (name : ByteArray) (hr : -9223372036854775808 ≤ ref) (hm : K1.length ≤ 1000000) :
    Calls Try.prog 8 #[.pointer (some ⟨mb, 0, none⟩), .int .i64 ref, .int .i64 pid, .string name] w fun e w' =>
      e = .returned (.int .i64 (if pid < 0 ∨ badK K1 (ref, pid, name) = true then 1 else 0)) ∧ Two X W w' mb ob gb rb (if pid < 0 then K1 else putK K1 (ref, pid, name)) K2 Q1 Q2 ∧ Kept w w' := by
  obtain ⟨t, u, hA, rfl, rfl⟩ := h.mt
  refine (watch_any ref pid name w hA (many_lt rfl hm) hr).mono fun _ _ hp => ⟨?_, h.o hA.org hp.2.2 ⟨_, _, hp.2.1, ?_, rfl⟩⟩
  · rw [hp.1, bad_badK hA.st]
  · split
    · rfl
    · exact put1_putK hA.st _

theorem tr_watch (h : Two X W w mb ob gb rb K1 K2 Q1 Q2) (hX : ∀ k, X k → k < w.heap.size) (ref pid : Int) (name : ByteArray) (hm : Q1.length ≤ 1000000) (hr : Rising Q1) :
    Calls Try.prog 27 #[.pointer (some ⟨rb, 0, none⟩), .int .i64 ref, .int .i64 pid, .string name] w fun e w' =>
      e = .returned (.int .i64 (if pid < 0 ∨ badK Q1 (ref, pid, name) = true then 1 else 0)) ∧ Two X W w' mb ob gb rb K1 K2 (if pid < 0 then Q1 else putK Q1 (ref, pid, name)) Q2 ∧ Kept w w' := by
  obtain ⟨v1, v2, L1, L2, h1, rfl, rfl, h4, h5⟩ := h.rt
  exact (rwatch_any ref pid name w h1 (KL_len rfl hm) hr).mono fun _ _ hp => ⟨hp.1, h.r hX h1 h4 h5 hp.2⟩

theorem tm_onMonitor (h : Two X W w mb ob gb rb K1 K2 Q1 Q2) (ref pid : Int) (hr : -9223372036854775808 ≤ ref) (hm : K2.length ≤ 1000000) :
    Calls Try.prog 11 #[.pointer (some ⟨mb, 0, none⟩), .int .i64 ref, .int .i64 pid] w fun e w' =>
      e = .returned (.int .i64 (if pid < 1 ∨ badK K2 (ref, pid, ⟨#[]⟩) = true then 1 else 0)) ∧ Two X W w' mb ob gb rb K1 (if pid < 1 then K2 else putK K2 (ref, pid, ⟨#[]⟩)) Q1 Q2 ∧ Kept w w' := by
  obtain ⟨t, u, hA, rfl, rfl⟩ := h.mt
  refine (onMonitor_any ref pid w hA (many_lt rfl hm) hr).mono fun _ _ hp => ⟨?_, h.g hA.tgt hp.2.2 ⟨_, _, hp.2.1, rfl, ?_⟩⟩
  · rw [hp.1, bad_badK hA.su]
  · split
    · rfl
    · exact put1_putK hA.su _

theorem tr_onMonitor (h : Two X W w mb ob gb rb K1 K2 Q1 Q2) (hX : ∀ k, X k → k < w.heap.size) (ref pid : Int) (hm : Q2.length ≤ 1000000) (hr : Rising Q2) :
    Calls Try.prog 29 #[.pointer (some ⟨rb, 0, none⟩), .int .i64 ref, .int .i64 pid] w fun e w' =>
      e = .returned (.int .i64 (if pid < 1 ∨ badK Q2 (ref, pid, ⟨#[]⟩) = true then 1 else 0)) ∧ Two X W w' mb ob gb rb K1 K2 Q1 (if pid < 1 then Q2 else putK Q2 (ref, pid, ⟨#[]⟩)) ∧ Kept w w' := by
  obtain ⟨v1, v2, L1, L2, h1, rfl, rfl, h4, h5⟩ := h.rt
  exact (ronMonitor_any ref pid w h1 (KL_len rfl hm) hr).mono fun _ _ hp => ⟨hp.1, h.r hX h1 h4 h5 hp.2⟩

theorem tm_demonitor (h : Two X W w mb ob gb rb K1 K2 Q1 Q2) (ref : Int) (hm : K1.length ≤ 1000000) :
    Calls Try.prog 9 #[.pointer (some ⟨mb, 0, none⟩), .int .i64 ref] w fun e w' =>
      e = .returned (.tuple #[.agg #[.int .i64 ((lookR K1 ref).1).1, .int .i64 ((lookR K1 ref).1).2.1, .string ((lookR K1 ref).1).2.2], .bool (lookR K1 ref).2]) ∧ Two X W w' mb ob gb rb (del ref K1) K2 Q1 Q2 ∧ Kept w w' := by
  obtain ⟨t, u, hA, rfl, rfl⟩ := h.mt
  refine (demonitor_any ref w hA (many_lt rfl hm)).mono fun _ _ hp => ⟨?_, h.o hA.org hp.2.2 ⟨_, _, hp.2.1, dropped_list hA.st ref, rfl⟩⟩
  rw [hp.1, getR_lookR hA.st]

theorem tm_onDown (h : Two X W w mb ob gb rb K1 K2 Q1 Q2) (ref : Int) (hm : K1.length ≤ 1000000) :
    Calls Try.prog 10 #[.pointer (some ⟨mb, 0, none⟩), .int .i64 ref] w fun e w' =>
      e = .returned (.tuple #[.agg #[.int .i64 ((lookR K1 ref).1).1, .int .i64 ((lookR K1 ref).1).2.1, .string ((lookR K1 ref).1).2.2], .bool (lookR K1 ref).2]) ∧ Two X W w' mb ob gb rb (del ref K1) K2 Q1 Q2 ∧ Kept w w' := by
  obtain ⟨t, u, hA, rfl, rfl⟩ := h.mt
  refine (onDown_any ref w hA (many_lt rfl hm)).mono fun _ _ hp => ⟨?_, h.o hA.org hp.2.2 ⟨_, _, hp.2.1, dropped_list hA.st ref, rfl⟩⟩
  rw [hp.1, getR_lookR hA.st]

theorem tr_demonitor (h : Two X W w mb ob gb rb K1 K2 Q1 Q2) (hX : ∀ k, X k → k < w.heap.size) (ref : Int) (hm : Q1.length ≤ 1000000) (hr : Rising Q1) :
    Calls Try.prog 28 #[.pointer (some ⟨rb, 0, none⟩), .int .i64 ref] w fun e w' =>
      e = .returned (.tuple #[.agg #[.int .i64 ((lookR Q1 ref).1).1, .int .i64 ((lookR Q1 ref).1).2.1, .string ((lookR Q1 ref).1).2.2], .bool (lookR Q1 ref).2]) ∧ Two X W w' mb ob gb rb K1 K2 (del ref Q1) Q2 ∧ Kept w w' := by
  obtain ⟨v1, v2, L1, L2, h1, rfl, rfl, h4, h5⟩ := h.rt
  exact (rdemonitor_any ref w h1 (KL_len rfl hm) hr).mono fun _ _ hp => ⟨hp.1, h.r hX h1 h4 h5 hp.2⟩

theorem tm_onDemonitor (h : Two X W w mb ob gb rb K1 K2 Q1 Q2) (ref : Int) (hm : K2.length ≤ 1000000) :
    Calls Try.prog 12 #[.pointer (some ⟨mb, 0, none⟩), .int .i64 ref] w fun e w' =>
      e = .returned (.bool (lookR K2 ref).2) ∧ Two X W w' mb ob gb rb K1 (del ref K2) Q1 Q2 ∧ Kept w w' := by
  obtain ⟨t, u, hA, rfl, rfl⟩ := h.mt
  refine (onDemonitor_any ref w hA (many_lt rfl hm)).mono fun _ _ hp => ⟨?_, h.g hA.tgt hp.2.2 ⟨_, _, hp.2.1, rfl, dropped_list hA.su ref⟩⟩
  rw [hp.1, getR_lookR hA.su]

theorem tr_onDemonitor (h : Two X W w mb ob gb rb K1 K2 Q1 Q2) (hX : ∀ k, X k → k < w.heap.size) (ref : Int) (hm : Q2.length ≤ 1000000) (hr : Rising Q2) :
    Calls Try.prog 30 #[.pointer (some ⟨rb, 0, none⟩), .int .i64 ref] w fun e w' =>
      e = .returned (.bool (lookR Q2 ref).2) ∧ Two X W w' mb ob gb rb K1 K2 Q1 (del ref Q2) ∧ Kept w w' := by
  obtain ⟨v1, v2, L1, L2, h1, rfl, rfl, h4, h5⟩ := h.rt
  exact (ronDemonitor_any ref w h1 (KL_len rfl hm) hr).mono fun _ _ hp => ⟨hp.1, h.r hX h1 h4 h5 hp.2⟩

theorem tm_popTarget (h : Two X W w mb ob gb rb K1 K2 Q1 Q2) (hm : K2.length ≤ 1000000) :
    Calls Try.prog 13 #[.pointer (some ⟨mb, 0, none⟩)] w fun e w' =>
      e = .returned (.tuple #[.agg #[.int .i64 ((popR K2).1).1, .int .i64 ((popR K2).1).2.1, .string ((popR K2).1).2.2], .bool (popR K2).2]) ∧ Two X W w' mb ob gb rb K1 K2.tail Q1 Q2 ∧ Kept w w' := by
  obtain ⟨t, u, hA, rfl, rfl⟩ := h.mt
  obtain ⟨e1, e2⟩ := first_popR (Tr.sorted_rising hA.su)
  refine (popTarget_any w hA (many_lt rfl hm)).mono fun _ _ hp => ⟨?_, h.g hA.tgt hp.2.2 ⟨_, _, hp.2.1, rfl, by rw [dropped_list hA.su, e2]⟩⟩
  rw [hp.1, getR_lookR hA.su, e1]

theorem tm_popOrigin (h : Two X W w mb ob gb rb K1 K2 Q1 Q2) (hm : K1.length ≤ 1000000) :
    Calls Try.prog 32 #[.pointer (some ⟨mb, 0, none⟩)] w fun e w' =>
      e = .returned (.tuple #[.agg #[.int .i64 ((popR K1).1).1, .int .i64 ((popR K1).1).2.1, .string ((popR K1).1).2.2], .bool (popR K1).2]) ∧ Two X W w' mb ob gb rb K1.tail K2 Q1 Q2 ∧ Kept w w' := by
  obtain ⟨t, u, hA, rfl, rfl⟩ := h.mt
  obtain ⟨e1, e2⟩ := first_popR (Tr.sorted_rising hA.st)
  refine (popOrigin_any w hA (many_lt rfl hm)).mono fun _ _ hp => ⟨?_, h.o hA.org hp.2.2 ⟨_, _, hp.2.1, by rw [dropped_list hA.st, e2], rfl⟩⟩
  rw [hp.1, getR_lookR hA.st, e1]

theorem tr_popTarget (h : Two X W w mb ob gb rb K1 K2 Q1 Q2) (hX : ∀ k, X k → k < w.heap.size) (hm : Q2.length ≤ 1000000) :
    Calls Try.prog 31 #[.pointer (some ⟨rb, 0, none⟩)] w fun e w' =>
      e = .returned (.tuple #[.agg #[.int .i64 ((popR Q2).1).1, .int .i64 ((popR Q2).1).2.1, .string ((popR Q2).1).2.2], .bool (popR Q2).2]) ∧ Two X W w' mb ob gb rb K1 K2 Q1 Q2.tail ∧ Kept w w' := by
  obtain ⟨v1, v2, L1, L2, h1, rfl, rfl, h4, h5⟩ := h.rt
  exact (rpopTarget_any w h1 (KL_len rfl hm)).mono fun _ _ hp => ⟨hp.1, h.r hX h1 h4 h5 hp.2⟩

theorem tr_popOrigin (h : Two X W w mb ob gb rb K1 K2 Q1 Q2) (hX : ∀ k, X k → k < w.heap.size) (hm : Q1.length ≤ 1000000) :
    Calls Try.prog 33 #[.pointer (some ⟨rb, 0, none⟩)] w fun e w' =>
      e = .returned (.tuple #[.agg #[.int .i64 ((popR Q1).1).1, .int .i64 ((popR Q1).1).2.1, .string ((popR Q1).1).2.2], .bool (popR Q1).2]) ∧ Two X W w' mb ob gb rb K1 K2 Q1.tail Q2 ∧ Kept w w' := by
  obtain ⟨v1, v2, L1, L2, h1, rfl, rfl, h4, h5⟩ := h.rt
  exact (rpopOrigin_any w h1 (KL_len rfl hm)).mono fun _ _ hp => ⟨hp.1, h.r hX h1 h4 h5 hp.2⟩
end

end Go.Proofs.Ytjgpoggbakanlaa
