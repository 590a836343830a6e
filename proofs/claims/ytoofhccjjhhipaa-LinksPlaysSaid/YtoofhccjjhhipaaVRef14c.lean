/- The document's half-links: Get, Link, OnLink, OnExit, OnAck. -/
import Derived.Test.YtoofhccjjhhipaaVRef14b
namespace Go.Proofs.Ytoofhccjjhhipaa
open Go.RowKit
attribute [local irreducible] Ext

theorem cases14 {L : List (Int × Int × Int)} (pid : Int) (hr : Rising (KL L)) : (∃ i x, L[i]? = some x ∧ place pid (KL L) = i ∧ x.1 = pid ∧ there pid (KL L) = true ∧ lookR (KL L) pid = (x, true)) ∨ (there pid (KL L) = false ∧ lookR (KL L) pid = ((0, 0, 0), false)) := by
  rcases there_look (key := pid) hr with ⟨ht, a, ha, hk, hl⟩ | ⟨ht, hl⟩
  · obtain ⟨h1, h2⟩ := KL_of ha
    exact .inl ⟨_, a.2, h1, rfl, h2 ▸ hk, ht, by unfold lookR; rw [hl]⟩
  · exact .inr ⟨ht, by unfold lookR; rw [hl]⟩

theorem Post14.same {w w' : World} {b : Nat} {v : Value} {L : List (Int × Int × Int)} {last : Int} (h : R14 w b v L last) (hE : Ext w w') : Post14 w w' b v last (KL L) :=
  ⟨v, L, h.ext hE, rfl, mod_of_ext hE, fun _ hk => .inl hk.symm⟩

theorem Post14.ahead {w wa w' : World} {b : Nat} {v : Value} {last : Int} {K : List (Int × (Int × Int × Int))} (hE : Ext w wa) (h : Post14 wa w' b v last K) : Post14 w w' b v last K := by
  obtain ⟨v', L', h1, h2, h3, h4⟩ := h
  have hs := Ext.size hE
  refine ⟨v', L', h1, h2, (mod_of_ext hE).trans h3 (fun _ _ h => h), fun k hk => ?_⟩
  rcases h4 k hk with h | h
  · exact .inl h
  · exact .inr (by omega)

theorem set14_any {b : Nat} {v : Value} {L : List (Int × Int × Int)} {last : Int} (pid : Int) (w : World) (h : R14 w b v L last) (hL : L.length ≤ 1000000) (hr : Rising (KL L)) :
    Calls Try.prog 35 #[.pointer (some ⟨b, 0, none⟩), .int .i64 pid] w fun e w' => (∃ u, e = .returned u) ∧ Post14 w w' b v last (ins pid (pid, 1, 0) (KL L)) := by
  rcases cases14 pid hr with ⟨i, x, hx, hp, hk, ht, _⟩ | ⟨ht, _⟩
  · exact set14_there pid w h hL hx hp hk ht
  · exact set14_new pid w h hL rfl ht

set_option maxRecDepth 100000 in
set_option maxHeartbeats 1000000 in
theorem get14_any {b : Nat} {v : Value} {L : List (Int × Int × Int)} {last : Int} (pid : Int) (w : World) (h : R14 w b v L last) (hL : L.length ≤ 1000000) (hr : Rising (KL L)) :
    Calls Try.prog 14 #[.pointer (some ⟨b, 0, none⟩), .int .i64 pid] w fun e w' => e = .returned (.tuple #[.agg #[.int .i64 ((lookR (KL L) pid).1).1, .int .i64 ((lookR (KL L) pid).1).2.1, .int .i64 ((lookR (KL L) pid).1).2.2], .bool (lookR (KL L) pid).2]) ∧ Ext w w' := by
  have hE0 : Ext w (w.alloc (.cells #[.int .i64 0, .int .i64 0, .int .i64 0] 36)) := (Ext.refl w).alloc _
  have hz0 : Box3 (w.alloc (.cells #[.int .i64 0, .int .i64 0, .int .i64 0] 36)) w.heap.size (0, 0, 0) := heap_alloc_new w _
  have hf := find14_any pid _ (h.ext hE0) (by omega)
  rcases cases14 pid hr with ⟨i, x, hx, hp, hk, ht, hl⟩ | ⟨ht, hl⟩
  · rw [hp, ht] at hf
    rw [hl]
    have hi : (i : Int) < (L.length : Int) := by have := (List.getElem?_eq_some_iff.1 hx).1; omega
    have s0 : (0 : Int) ≤ (i : Int) := by omega
    have HH := Lib.hid h
    have HX := Lib.hid hx
    have HE0 := Lib.hid hE0
    have HZ0 := Lib.hid hz0
    clear h hr ht hl hp hk hE0 hx hz0
    go_enter Try.func14, Try.ntmps14
    go_wp2_with (go_at_call 40; (with_reducible refine hf.mono ?_); rintro e wa ⟨rfl, hEa⟩; have hE1 := HE0.out.trans hEa; obtain ⟨c0, c1, d0, d1⟩ := (HH.out.ext hE1).cells; obtain ⟨ga, capa, hv, hcap, q0, q1, q2⟩ := (HH.out.ext hE1).row.at_ HX.out; rw [hv] at c0; obtain ⟨r0, r1, r2, e0, e1, e2⟩ := Box3.cells (Box3.set (hEa.keep HZ0.out) x); obtain ⟨_, _, _, f0, f1, f2⟩ := Box3.cells (hEa.keep HZ0.out); have HE1 := Lib.hid hE1; clear hv hE1)
    have hM : Ext w (((wa.setCell ⟨w.heap.size, 0, none⟩ (.int .i64 x.1)).setCell ⟨w.heap.size, 1, none⟩ (.int .i64 x.2.1)).setCell ⟨w.heap.size, 2, none⟩ (.int .i64 x.2.2)) := by
      have h1 := HE1.out
      unfold Ext at h1 ⊢
      exact set3r_mod (i := 0) h1 (.inr (Nat.le_refl _)) x
    exact bodyPost_ret (v := .tuple #[.agg #[.int .i64 x.1, .int .i64 x.2.1, .int .i64 x.2.2], .bool true]) (by simp [results, Try.f14, go_sem, r0, r1, r2]) rfl ⟨rfl, hM⟩
  · rw [ht] at hf
    rw [hl]
    obtain ⟨i, hi⟩ : ∃ i, place pid (KL L) = i := ⟨_, rfl⟩
    rw [hi] at hf
    have HH := Lib.hid h
    have HE0 := Lib.hid hE0
    have HZ0 := Lib.hid hz0
    clear h hr ht hl hE0 hz0 hi
    go_enter Try.func14, Try.ntmps14
    go_wp2_with (go_at_call 40; (with_reducible refine hf.mono ?_); rintro e wa ⟨rfl, hEa⟩; have hE1 := HE0.out.trans hEa; obtain ⟨r0, r1, r2, e0, e1, e2⟩ := Box3.cells (Box3.set (hEa.keep HZ0.out) (0, 0, 0)); obtain ⟨_, _, _, f0, f1, f2⟩ := Box3.cells (hEa.keep HZ0.out); have HE1 := Lib.hid hE1; clear hE1)
    have hM : Ext w (((wa.setCell ⟨w.heap.size, 0, none⟩ (.int .i64 (((0, 0, 0))).1)).setCell ⟨w.heap.size, 1, none⟩ (.int .i64 (((0, 0, 0))).2.1)).setCell ⟨w.heap.size, 2, none⟩ (.int .i64 (((0, 0, 0))).2.2)) := by
      have h1 := HE1.out
      unfold Ext at h1 ⊢
      exact set3r_mod (i := 0) h1 (.inr (Nat.le_refl _)) (0, 0, 0)
    exact bodyPost_ret (v := .tuple #[.agg #[.int .i64 (((0, 0, 0))).1, .int .i64 (((0, 0, 0))).2.1, .int .i64 (((0, 0, 0))).2.2], .bool false]) (by simp [results, Try.f14, go_sem, r0, r1, r2]) rfl ⟨rfl, hM⟩

set_option maxRecDepth 100000 in
set_option maxHeartbeats 1000000 in
theorem link14_any {b : Nat} {v : Value} {L : List (Int × Int × Int)} {last : Int} (pid : Int) (w : World) (h : R14 w b v L last) (hL : L.length ≤ 1000000) (hr : Rising (KL L)) :
    Calls Try.prog 28 #[.pointer (some ⟨b, 0, none⟩), .int .i64 pid] w fun e w' => e = .returned (.bool (!decide ((lookR (KL L) pid).1.2.1 = 1))) ∧ Post14 w w' b v last (if (lookR (KL L) pid).1.2.1 = 1 then KL L else ins pid (pid, 1, 0) (KL L)) := by
  have hg := get14_any pid w h hL hr
  obtain ⟨gv, hgv⟩ : ∃ gv, (lookR (KL L) pid).1 = gv := ⟨_, rfl⟩
  have hz : (lookR (KL L) pid).2 = false → gv = (0, 0, 0) := by
    rcases cases14 pid hr with ⟨i, x, hx, hp, hk, ht, hl⟩ | ⟨ht, hl⟩
    · rw [hl]; exact fun h => by cases h
    · rw [hl] at hgv; exact fun _ => hgv.symm
  rw [hgv] at hg ⊢
  cases hB : (lookR (KL L) pid).2 with
  | false =>
    obtain rfl := hz hB
    rw [hB] at hg
    have HH := Lib.hid h
    have HR := Lib.hid hr
    clear h hr hgv hz hB
    rw [if_neg (by decide)]
    go_enter Try.func28, Try.ntmps28
    go_wp2_with (go_at_call 14; (with_reducible refine hg.mono ?_); rintro e wa ⟨rfl, hEa⟩; have HEa := Lib.hid hEa; clear hEa)
    have hE2 := HEa.out.alloc (.cells #[.int .i64 (((0, 0, 0))).1, .int .i64 (((0, 0, 0))).2.1, .int .i64 (((0, 0, 0))).2.2] 36)
    refine (set14_any pid _ (HH.out.ext hE2) hL HR.out).mono ?_
    rintro e w2 ⟨⟨u, rfl⟩, hP⟩
    have HP := Lib.hid (hP.ahead hE2)
    clear hP hE2
    go_wp2_with fail
    go_ret
    exact ⟨rfl, HP.out⟩
  | true =>
    rw [hB] at hg
    have HH := Lib.hid h
    have HR := Lib.hid hr
    clear h hr hgv hz hB
    by_cases h1 : gv.2.1 = 1
    · rw [if_pos h1]
      have h2 : (gv.2.1 == 1) = true := beq_iff_eq.2 h1
      have h3 : decide (gv.2.1 = 1) = true := decide_eq_true h1
      clear h1
      go_enter Try.func28, Try.ntmps28
      go_wp2_with (go_at_call 14; (with_reducible refine hg.mono ?_); rintro e wa ⟨rfl, hEa⟩; obtain ⟨r0, r1, r2, e0, e1, e2⟩ := Box3.cells (Box3.new wa gv); have HEa := Lib.hid hEa; clear hEa)
      go_ret
      exact ⟨by rw [h3]; rfl, Post14.same HH.out (HEa.out.alloc _)⟩
    · rw [if_neg h1]
      have h2 : (gv.2.1 == 1) = false := beq_eq_false_iff_ne.2 h1
      have h3 : decide (gv.2.1 = 1) = false := decide_eq_false h1
      clear h1
      go_enter Try.func28, Try.ntmps28
      go_wp2_with (go_at_call 14; (with_reducible refine hg.mono ?_); rintro e wa ⟨rfl, hEa⟩; obtain ⟨r0, r1, r2, e0, e1, e2⟩ := Box3.cells (Box3.new wa gv); have HEa := Lib.hid hEa; clear hEa)
      have hE2 := HEa.out.alloc (.cells #[.int .i64 gv.1, .int .i64 gv.2.1, .int .i64 gv.2.2] 36)
      refine (set14_any pid _ (HH.out.ext hE2) hL HR.out).mono ?_
      rintro e w2 ⟨⟨u, rfl⟩, hP⟩
      have HP := Lib.hid (hP.ahead hE2)
      clear hP hE2
      go_wp2_with fail
      go_ret
      exact ⟨by rw [h3]; rfl, HP.out⟩

set_option maxRecDepth 100000 in
set_option maxHeartbeats 1000000 in
theorem onLink14_any {b : Nat} {v : Value} {L : List (Int × Int × Int)} {last : Int} (pid : Int) (w : World) (h : R14 w b v L last) (hL : L.length ≤ 1000000) (hr : Rising (KL L)) :
    Calls Try.prog 30 #[.pointer (some ⟨b, 0, none⟩), .int .i64 pid] w fun e w' => (∃ u, e = .returned u) ∧ Post14 w w' b v last (if (lookR (KL L) pid).2 = true then KL L else ins pid (pid, 1, 0) (KL L)) := by
  have hf := find14_any pid w h (by omega)
  obtain ⟨i, hi⟩ : ∃ i, place pid (KL L) = i := ⟨_, rfl⟩
  rw [hi] at hf
  have ht : there pid (KL L) = (lookR (KL L) pid).2 := by
    rcases cases14 pid hr with ⟨i, x, hx, hp, hk, ht, hl⟩ | ⟨ht, hl⟩ <;> rw [hl, ht]
  rw [ht] at hf
  cases hB : (lookR (KL L) pid).2 with
  | true =>
    rw [hB] at hf
    rw [if_pos rfl]
    have HH := Lib.hid h
    clear h hr ht hB hi
    go_enter Try.func30, Try.ntmps30
    go_wp2_with (go_at_call 40; (with_reducible refine hf.mono ?_); rintro e wa ⟨rfl, hEa⟩)
    go_end0
    exact ⟨⟨_, rfl⟩, Post14.same HH.out hEa⟩
  | false =>
    rw [hB] at hf
    rw [if_neg (by decide)]
    have HH := Lib.hid h
    have HR := Lib.hid hr
    clear h hr ht hB hi
    go_enter Try.func30, Try.ntmps30
    go_wp2_with (go_at_call 40; (with_reducible refine hf.mono ?_); rintro e wa ⟨rfl, hEa⟩; have HEa := Lib.hid hEa; clear hEa)
    refine (set14_any pid _ (HH.out.ext HEa.out) hL HR.out).mono ?_
    rintro e w2 ⟨⟨u, rfl⟩, hP⟩
    have HP := Lib.hid (hP.ahead HEa.out)
    clear hP
    go_wp2_with fail
    go_end0
    exact ⟨⟨_, rfl⟩, HP.out⟩

end Go.Proofs.Ytoofhccjjhhipaa
