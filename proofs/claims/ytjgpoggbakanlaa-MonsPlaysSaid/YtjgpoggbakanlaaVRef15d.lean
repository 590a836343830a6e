/- The document's halves of monitors: its table; Watch, OnMonitor. -/
import Derived.Test.YtjgpoggbakanlaaVRef15c
import Derived.Outline
namespace Go.Proofs.Ytjgpoggbakanlaa
open Go.RowKit
attribute [local irreducible] Ext

/-- The document's table in block b. -/
structure R15 (w : World) (b : Nat) (v1 v2 : Value) (L1 L2 : List (Int × Int × ByteArray)) : Prop where
  blk : w.heap[b]? = some (.cells #[v1, v2] 41 (0, 0))
  r1 : Row3 w v1 L1
  r2 : Row3 w v2 L2

theorem R15.ext {w w' : World} {b : Nat} {v1 v2 : Value} {L1 L2 : List (Int × Int × ByteArray)} (h : R15 w b v1 v2 L1 L2) (hE : Ext w w') : R15 w' b v1 v2 L1 L2 := by
  refine ⟨hE.keep h.blk, h.r1.keep (F := fun _ => False) ?_ (fun _ _ h => h), h.r2.keep (F := fun _ => False) ?_ (fun _ _ h => h)⟩ <;> (unfold Ext at hE; exact hE)

theorem R15.cells {w : World} {b : Nat} {v1 v2 : Value} {L1 L2 : List (Int × Int × ByteArray)} (h : R15 w b v1 v2 L1 L2) : w.cell? ⟨b, 0, none⟩ = some v1 ∧ w.cell? ⟨b, 1, none⟩ = some v2 ∧ w.frozen? ⟨b, 0, none⟩ = false ∧ w.frozen? ⟨b, 1, none⟩ = false :=
  ⟨by simp [cell_of_heap h.blk], by simp [cell_of_heap h.blk], free_of_heap h.blk 0, free_of_heap h.blk 1⟩

/-- What Get tells. -/
def lookR (K : List (Int × (Int × Int × ByteArray))) (key : Int) : (Int × Int × ByteArray) × Bool := match look key K with | some v => (v, true) | none => ((0, 0, ⟨#[]⟩), false)

/-- What a writing call of the document's table leaves. -/
def Post15 (w w' : World) (b : Nat) (v1 v2 : Value) (K1 K2 : List (Int × (Int × Int × ByteArray))) : Prop :=
  ∃ v1' v2' L1' L2', R15 w' b v1' v2' L1' L2' ∧ KL L1' = K1 ∧ KL L2' = K2 ∧ Mod (fun k => k = b) w w' ∧ (∀ k, v1'.ownBlock = some k → some k = v1.ownBlock ∨ w.heap.size ≤ k) ∧ (∀ k, v2'.ownBlock = some k → some k = v2.ownBlock ∨ w.heap.size ≤ k)

theorem cases15 {L : List (Int × Int × ByteArray)} (pid : Int) (hr : Rising (KL L)) : (∃ i x, L[i]? = some x ∧ place pid (KL L) = i ∧ x.1 = pid ∧ there pid (KL L) = true ∧ lookR (KL L) pid = (x, true)) ∨ (there pid (KL L) = false ∧ lookR (KL L) pid = ((0, 0, ⟨#[]⟩), false)) := by
  rcases there_look (key := pid) hr with ⟨ht, a, ha, hk, hl⟩ | ⟨ht, hl⟩
  · obtain ⟨h1, h2⟩ := KL_of ha
    exact .inl ⟨_, a.2, h1, rfl, h2 ▸ hk, ht, by unfold lookR; rw [hl]⟩
  · exact .inr ⟨ht, by unfold lookR; rw [hl]⟩

theorem there_lookR {L : List (Int × Int × ByteArray)} (pid : Int) (hr : Rising (KL L)) : there pid (KL L) = (lookR (KL L) pid).2 := by
  rcases cases15 pid hr with ⟨i, x, _, _, _, h1, h2⟩ | ⟨h1, h2⟩ <;> rw [h1, h2]

theorem Post15.same {w w' : World} {b : Nat} {v1 v2 : Value} {L1 L2 : List (Int × Int × ByteArray)} (h : R15 w b v1 v2 L1 L2) (hE : Ext w w') : Post15 w w' b v1 v2 (KL L1) (KL L2) :=
  ⟨v1, v2, L1, L2, h.ext hE, rfl, rfl, mod_of_ext hE, fun _ hk => .inl hk.symm, fun _ hk => .inl hk.symm⟩

/-- A new row of origins is put in its place. -/
theorem R15.new1 {w w2 : World} {b : Nat} {v1 v2 v : Value} {L1 L2 L : List (Int × Int × ByteArray)} (h : R15 w b v1 v2 L1 L2) (hE : Ext w w2) (hrow : Row3 w2 v L) (hb : ∀ k, v.ownBlock = some k → w.heap.size ≤ k) :
    Post15 w (w2.setCell ⟨b, 0, none⟩ v) b v1 v2 (KL L) (KL L2) := by
  have hlt := heap_lt h.blk
  have h2 := h.ext hE
  have hM2 : Mod (fun k => k = b) w2 (w2.setCell ⟨b, 0, none⟩ v) := (Mod.refl (fun k => k = b) w2).setCell (p := ⟨b, 0, none⟩) (.inl rfl) _
  refine ⟨v, v2, L, L2, ⟨by simpa using heap_set (o := 0) h2.blk v, hrow.keep hM2 (fun k hk e => by have := hb k hk; omega), h2.r2.keep hM2 (fun k hk e => ?_)⟩, rfl, rfl, (mod_of_ext hE).trans hM2 (fun _ _ h => h), fun k hk => .inr (hb k hk), fun _ hk => .inl hk.symm⟩
  subst e
  exact own_ne_elem h2.r2 h2.blk (by decide) hk

/-- A new row of targets is put in its place. -/
theorem R15.new2 {w w2 : World} {b : Nat} {v1 v2 v : Value} {L1 L2 L : List (Int × Int × ByteArray)} (h : R15 w b v1 v2 L1 L2) (hE : Ext w w2) (hrow : Row3 w2 v L) (hb : ∀ k, v.ownBlock = some k → w.heap.size ≤ k) :
    Post15 w (w2.setCell ⟨b, 1, none⟩ v) b v1 v2 (KL L1) (KL L) := by
  have hlt := heap_lt h.blk
  have h2 := h.ext hE
  have hM2 : Mod (fun k => k = b) w2 (w2.setCell ⟨b, 1, none⟩ v) := (Mod.refl (fun k => k = b) w2).setCell (p := ⟨b, 1, none⟩) (.inl rfl) _
  refine ⟨v1, v, L1, L, ⟨by simpa using heap_set (o := 1) h2.blk v, h2.r1.keep hM2 (fun k hk e => ?_), hrow.keep hM2 (fun k hk e => by have := hb k hk; omega)⟩, rfl, rfl, (mod_of_ext hE).trans hM2 (fun _ _ h => h), fun _ hk => .inl hk.symm, fun k hk => .inr (hb k hk)⟩
  subst e
  exact own_ne_elem h2.r1 h2.blk (by decide) hk

theorem Post15.ext {w w' w2 : World} {b : Nat} {v1 v2 : Value} {K1 K2 : List (Int × (Int × Int × ByteArray))} (h : Post15 w w' b v1 v2 K1 K2) (hE : Ext w' w2) : Post15 w w2 b v1 v2 K1 K2 := by
  obtain ⟨v1', v2', L1', L2', p1, p2, p3, p4, p5, p6⟩ := h
  exact ⟨v1', v2', L1', L2', p1.ext hE, p2, p3, p4.trans (mod_of_ext hE) (fun _ _ h => h), p5, p6⟩

/-- Is a half refused? -/
def badK (K : List (Int × (Int × Int × ByteArray))) (m : (Int × Int × ByteArray)) : Bool := (lookR K m.1).2 || decide (m.1 < 1)

def putK (K : List (Int × (Int × Int × ByteArray))) (m : (Int × Int × ByteArray)) : List (Int × (Int × Int × ByteArray)) := if badK K m then K else ins m.1 m K

theorem KL_ins {L : List (Int × Int × ByteArray)} {m : (Int × Int × ByteArray)} (h : there m.1 (KL L) = false) : ins m.1 m (KL L) = KL (L.take (place m.1 (KL L)) ++ m :: L.drop (place m.1 (KL L))) := by
  rw [ins_not h]
  simp [KL, List.map_take, List.map_drop]

set_option maxRecDepth 100000 in
set_option maxHeartbeats 2000000 in
theorem rwatch_any {b : Nat} {v1 v2 : Value} {L1 L2 : List (Int × Int × ByteArray)} (ref pid : Int) (name : ByteArray) (w : World) (h : R15 w b v1 v2 L1 L2) (hL : L1.length ≤ 1000000) (hr : Rising (KL L1)) :
    Calls Try.prog 27 #[.pointer (some ⟨b, 0, none⟩), .int .i64 ref, .int .i64 pid, .string name] w fun e w' =>
      e = .returned (.int .i64 (if pid < 0 ∨ badK (KL L1) (ref, pid, name) = true then 1 else 0)) ∧ Post15 w w' b v1 v2 (if pid < 0 then KL L1 else putK (KL L1) (ref, pid, name)) (KL L2) := by
  have hf := find15_any ref w h.r1 (by omega)
  have ht := there_lookR ref hr
  have hple := place_le ref (KL L1)
  rw [KL_length] at hple
  have hi := KL_ins (L := L1) (m := (ref, pid, name))
  dsimp only at hi
  obtain ⟨i, hi0⟩ : ∃ i, place ref (KL L1) = i := ⟨_, rfl⟩
  rw [hi0] at hf hi hple
  have c0 := h.cells.1
  obtain ⟨A, hA⟩ : ∃ A : Int × List (Int × (Int × Int × ByteArray)), (if pid < 0 ∨ badK (KL L1) (ref, pid, name) = true then 1 else 0, if pid < 0 then KL L1 else putK (KL L1) (ref, pid, name)) = A := ⟨_, rfl⟩
  have hA1 := congrArg Prod.fst hA
  have hA2 := congrArg Prod.snd hA
  dsimp only at hA1 hA2
  rw [hA1, hA2]
  have hyes : ¬ (ref < 1) → ¬ (pid < 0) → there ref (KL L1) = false → A = (0, KL (L1.take i ++ (ref, pid, name) :: L1.drop i)) := by
    intro a1 a2 a3
    have hb : badK (KL L1) (ref, pid, name) = false := by
      unfold badK
      rw [← ht, a3, decide_eq_false a1]
      rfl
    rw [← hA, if_neg a2, if_neg (fun h => h.elim a2 (fun h => by rw [hb] at h; cases h))]
    unfold putK
    rw [if_neg (fun h => by rw [hb] at h; cases h), ← hi a3]
  have hno : (ref < 1 ∨ pid < 0 ∨ there ref (KL L1) = true) → A = (1, KL L1) := by
    intro hbad
    by_cases a2 : pid < 0
    · rw [← hA, if_pos a2, if_pos (.inl a2)]
    · have hb : badK (KL L1) (ref, pid, name) = true := by
        unfold badK
        rw [← ht]
        rcases hbad with a | a | a
        · rw [decide_eq_true a, Bool.or_true]
        · exact absurd a a2
        · rw [a]; rfl
      rw [← hA, if_neg a2, if_pos (.inr hb)]
      unfold putK
      rw [if_pos hb]
  have HY := Lib.hid hyes
  have HN := Lib.hid hno
  have HH := Lib.hid h
  have HPL := Lib.hid hple
  clear hyes hno h hA hA1 hA2 ht hi hi0 hr hple
  obtain ⟨q, hq⟩ : ∃ q, there ref (KL L1) = q := ⟨_, rfl⟩
  rw [hq] at hf HY HN
  clear hq
  by_cases a1 : ref < 1
  · have d1 : decide (ref < 1) = true := decide_eq_true a1
    have HA := Lib.hid (HN.out (.inl a1))
    clear a1 HY HN
    go_enter Try.func27, Try.ntmps27
    go_wp2_with (go_at_call 44; (with_reducible refine hf.mono ?_); rintro e wa ⟨rfl, hEa⟩; have HEa := Lib.hid hEa; clear hEa)
    go_ret
    rw [HA.out]
    exact ⟨rfl, Post15.same HH.out HEa.out⟩
  have d1 : decide (ref < 1) = false := decide_eq_false a1
  by_cases a2 : pid < 0
  · have d2 : decide (pid < 0) = true := decide_eq_true a2
    have HA := Lib.hid (HN.out (.inr (.inl a2)))
    clear a1 a2 HY HN
    go_enter Try.func27, Try.ntmps27
    go_wp2_with (go_at_call 44; (with_reducible refine hf.mono ?_); rintro e wa ⟨rfl, hEa⟩; have HEa := Lib.hid hEa; clear hEa)
    go_ret
    rw [HA.out]
    exact ⟨rfl, Post15.same HH.out HEa.out⟩
  have d2 : decide (pid < 0) = false := decide_eq_false a2
  cases q with
  | true =>
    have HA := Lib.hid (HN.out (.inr (.inr rfl)))
    clear a1 a2 HY HN
    go_enter Try.func27, Try.ntmps27
    go_wp2_with (go_at_call 44; (with_reducible refine hf.mono ?_); rintro e wa ⟨rfl, hEa⟩; have HEa := Lib.hid hEa; clear hEa)
    go_ret
    rw [HA.out]
    exact ⟨rfl, Post15.same HH.out HEa.out⟩
  | false =>
    have HA := Lib.hid (HY.out a1 a2 rfl)
    clear a1 a2 HY HN
    go_enter Try.func27, Try.ntmps27
    go_wp2_with (go_at_call 44; (with_reducible refine hf.mono ?_); rintro e wa ⟨rfl, hEa⟩; have ca := (HH.out.ext hEa).cells.1; have HEa := Lib.hid hEa; clear hEa)
    refine (with15 (ref, pid, name) _ (HH.out.ext HEa.out).r1 hL HPL.out).mono ?_
    rintro e w2 ⟨v', rfl, hrow, hE2, hb⟩
    obtain ⟨M, hMM⟩ : ∃ M, L1.take i ++ (ref, pid, name) :: L1.drop i = M := ⟨_, rfl⟩
    rw [hMM] at hrow
    have HA' := HA.out
    rw [hMM] at HA'
    have HB := Lib.hid HA'
    clear HA' hMM HA
    obtain ⟨so', sc', rfl⟩ := own_slice hrow
    have fa := (HH.out.ext (HEa.out.trans hE2)).cells.2.2.1
    have cb := (HH.out.ext (HEa.out.trans hE2)).cells.1
    have hs := Ext.size HEa.out
    have HP := Lib.hid (HH.out.new1 (HEa.out.trans hE2) hrow (fun k hk => by have := hb k hk; omega))
    clear hrow hE2 hb hf
    go_wp2_with fail
    go_ret
    rw [HB.out]
    exact ⟨rfl, HP.out⟩

set_option maxRecDepth 100000 in
set_option maxHeartbeats 2000000 in
theorem ronMonitor_any {b : Nat} {v1 v2 : Value} {L1 L2 : List (Int × Int × ByteArray)} (ref pid : Int) (w : World) (h : R15 w b v1 v2 L1 L2) (hL : L2.length ≤ 1000000) (hr : Rising (KL L2)) :
    Calls Try.prog 29 #[.pointer (some ⟨b, 0, none⟩), .int .i64 ref, .int .i64 pid] w fun e w' =>
      e = .returned (.int .i64 (if pid < 1 ∨ badK (KL L2) (ref, pid, ⟨#[]⟩) = true then 1 else 0)) ∧ Post15 w w' b v1 v2 (KL L1) (if pid < 1 then KL L2 else putK (KL L2) (ref, pid, ⟨#[]⟩)) := by
  have hf := find15_any ref w h.r2 (by omega)
  have ht := there_lookR ref hr
  have hple := place_le ref (KL L2)
  rw [KL_length] at hple
  have hi := KL_ins (L := L2) (m := (ref, pid, ⟨#[]⟩))
  dsimp only at hi
  obtain ⟨i, hi0⟩ : ∃ i, place ref (KL L2) = i := ⟨_, rfl⟩
  rw [hi0] at hf hi hple
  have c0 := h.cells.2.1
  obtain ⟨A, hA⟩ : ∃ A : Int × List (Int × (Int × Int × ByteArray)), (if pid < 1 ∨ badK (KL L2) (ref, pid, ⟨#[]⟩) = true then 1 else 0, if pid < 1 then KL L2 else putK (KL L2) (ref, pid, ⟨#[]⟩)) = A := ⟨_, rfl⟩
  have hA1 := congrArg Prod.fst hA
  have hA2 := congrArg Prod.snd hA
  dsimp only at hA1 hA2
  rw [hA1, hA2]
  have hyes : ¬ (ref < 1) → ¬ (pid < 1) → there ref (KL L2) = false → A = (0, KL (L2.take i ++ (ref, pid, ⟨#[]⟩) :: L2.drop i)) := by
    intro a1 a2 a3
    have hb : badK (KL L2) (ref, pid, ⟨#[]⟩) = false := by
      unfold badK
      rw [← ht, a3, decide_eq_false a1]
      rfl
    rw [← hA, if_neg a2, if_neg (fun h => h.elim a2 (fun h => by rw [hb] at h; cases h))]
    unfold putK
    rw [if_neg (fun h => by rw [hb] at h; cases h), ← hi a3]
  have hno : (ref < 1 ∨ pid < 1 ∨ there ref (KL L2) = true) → A = (1, KL L2) := by
    intro hbad
    by_cases a2 : pid < 1
    · rw [← hA, if_pos a2, if_pos (.inl a2)]
    · have hb : badK (KL L2) (ref, pid, ⟨#[]⟩) = true := by
        unfold badK
        rw [← ht]
        rcases hbad with a | a | a
        · rw [decide_eq_true a, Bool.or_true]
        · exact absurd a a2
        · rw [a]; rfl
      rw [← hA, if_neg a2, if_pos (.inr hb)]
      unfold putK
      rw [if_pos hb]
  have HY := Lib.hid hyes
  have HN := Lib.hid hno
  have HH := Lib.hid h
  have HPL := Lib.hid hple
  clear hyes hno h hA hA1 hA2 ht hi hi0 hr hple
  obtain ⟨q, hq⟩ : ∃ q, there ref (KL L2) = q := ⟨_, rfl⟩
  rw [hq] at hf HY HN
  clear hq
  by_cases a1 : ref < 1
  · have d1 : decide (ref < 1) = true := decide_eq_true a1
    have HA := Lib.hid (HN.out (.inl a1))
    clear a1 HY HN
    go_enter Try.func29, Try.ntmps29
    go_wp2_with (go_at_call 44; (with_reducible refine hf.mono ?_); rintro e wa ⟨rfl, hEa⟩; have HEa := Lib.hid hEa; clear hEa)
    go_ret
    rw [HA.out]
    exact ⟨rfl, Post15.same HH.out HEa.out⟩
  have d1 : decide (ref < 1) = false := decide_eq_false a1
  by_cases a2 : pid < 1
  · have d2 : decide (pid < 1) = true := decide_eq_true a2
    have HA := Lib.hid (HN.out (.inr (.inl a2)))
    clear a1 a2 HY HN
    go_enter Try.func29, Try.ntmps29
    go_wp2_with (go_at_call 44; (with_reducible refine hf.mono ?_); rintro e wa ⟨rfl, hEa⟩; have HEa := Lib.hid hEa; clear hEa)
    go_ret
    rw [HA.out]
    exact ⟨rfl, Post15.same HH.out HEa.out⟩
  have d2 : decide (pid < 1) = false := decide_eq_false a2
  cases q with
  | true =>
    have HA := Lib.hid (HN.out (.inr (.inr rfl)))
    clear a1 a2 HY HN
    go_enter Try.func29, Try.ntmps29
    go_wp2_with (go_at_call 44; (with_reducible refine hf.mono ?_); rintro e wa ⟨rfl, hEa⟩; have HEa := Lib.hid hEa; clear hEa)
    go_ret
    rw [HA.out]
    exact ⟨rfl, Post15.same HH.out HEa.out⟩
  | false =>
    have HA := Lib.hid (HY.out a1 a2 rfl)
    clear a1 a2 HY HN
    go_enter Try.func29, Try.ntmps29
    go_wp2_with (go_at_call 44; (with_reducible refine hf.mono ?_); rintro e wa ⟨rfl, hEa⟩; have ca := (HH.out.ext hEa).cells.2.1; have HEa := Lib.hid hEa; clear hEa)
    refine (with15 (ref, pid, ⟨#[]⟩) _ (HH.out.ext HEa.out).r2 hL HPL.out).mono ?_
    rintro e w2 ⟨v', rfl, hrow, hE2, hb⟩
    obtain ⟨M, hMM⟩ : ∃ M, L2.take i ++ (ref, pid, ⟨#[]⟩) :: L2.drop i = M := ⟨_, rfl⟩
    rw [hMM] at hrow
    have HA' := HA.out
    rw [hMM] at HA'
    have HB := Lib.hid HA'
    clear HA' hMM HA
    obtain ⟨so', sc', rfl⟩ := own_slice hrow
    have fa := (HH.out.ext (HEa.out.trans hE2)).cells.2.2.2
    have cb := (HH.out.ext (HEa.out.trans hE2)).cells.2.1
    have hs := Ext.size HEa.out
    have HP := Lib.hid (HH.out.new2 (HEa.out.trans hE2) hrow (fun k hk => by have := hb k hk; omega))
    clear hrow hE2 hb hf
    go_wp2_with fail
    go_ret
    rw [HB.out]
    exact ⟨rfl, HP.out⟩

end Go.Proofs.Ytjgpoggbakanlaa
