/- The table of half-links: Link, OnLink, OnExit, OnAck, Unlink, Pop, New. -/
import Derived.Test.YtoofhccjjhhipaaVLinks
namespace Go.Proofs.Ytoofhccjjhhipaa
open Go.RowKit
attribute [local irreducible] Ext

set_option maxRecDepth 100000 in
set_option maxHeartbeats 1000000 in
theorem link_any {lb tb : Nat} {K : List (Int × (Int × Int × Int))} {ids : Int} (pid : Int) (w : World) (h : LT w lb tb K ids) (hm : K.length ≤ 1000000) :
    Calls Try.prog 25 #[.pointer (some ⟨lb, 0, none⟩), .int .i64 pid] w fun e w' => e = .returned (.bool (!decide ((lookR K pid).1.2.1 = 1))) ∧ LPost w w' lb tb (if (lookR K pid).1.2.1 = 1 then K else ins pid (pid, 1, 0) K) ids := by
  have hg := linked_any pid w h
  by_cases h1 : (lookR K pid).1.2.1 = 1
  · rw [if_pos h1, decide_eq_true h1]
    rw [decide_eq_true h1] at hg
    have HH := Lib.hid h
    clear h h1
    go_enter Try.func25, Try.ntmps25
    go_wp2_with (go_at_call 38; (with_reducible refine hg.mono ?_); rintro e wa ⟨rfl, hEa⟩; have HEa := Lib.hid hEa; clear hEa)
    go_ret
    exact ⟨rfl, LPost.same HH.out HEa.out⟩
  · rw [if_neg h1, decide_eq_false h1]
    rw [decide_eq_false h1] at hg
    have HH := Lib.hid h
    clear h h1
    go_enter Try.func25, Try.ntmps25
    go_wp2_with (go_at_call 38; (with_reducible refine hg.mono ?_); rintro e wa ⟨rfl, hEa⟩; have HEa := Lib.hid hEa; clear hEa)
    refine (lset_any pid _ (HH.out.ext HEa.out) hm).mono ?_
    rintro e w2 ⟨⟨u, rfl⟩, hP⟩
    have HP := Lib.hid (hP.ahead HEa.out)
    clear hP
    go_wp2_with fail
    go_ret
    exact ⟨rfl, HP.out⟩

set_option maxRecDepth 100000 in
set_option maxHeartbeats 1000000 in
theorem onLink_any {lb tb : Nat} {K : List (Int × (Int × Int × Int))} {ids : Int} (pid : Int) (w : World) (h : LT w lb tb K ids) (hm : K.length ≤ 1000000) :
    Calls Try.prog 29 #[.pointer (some ⟨lb, 0, none⟩), .int .i64 pid] w fun e w' => (∃ u, e = .returned u) ∧ LPost w w' lb tb (if (lookR K pid).2 = true then K else ins pid (pid, 1, 0) K) ids := by
  obtain ⟨c0, _, _⟩ := h.cells
  have hg := tk_get pid w h.tree
  obtain ⟨gv, hgv⟩ : ∃ gv, (lookR K pid).1 = gv := ⟨_, rfl⟩
  rw [hgv] at hg
  have HH := Lib.hid h
  clear hgv h
  cases hB : (lookR K pid).2 with
  | true =>
    rw [hB] at hg
    rw [if_pos rfl]
    clear hB
    go_enter Try.func29, Try.ntmps29
    go_wp2_with (go_at_call 12; (with_reducible refine hg.mono ?_); rintro e wa ⟨rfl, hEa⟩; have HEa := Lib.hid hEa; clear hEa)
    go_end0
    exact ⟨⟨_, rfl⟩, LPost.same HH.out (HEa.out.alloc _)⟩
  | false =>
    rw [hB] at hg
    rw [if_neg (by decide)]
    clear hB
    go_enter Try.func29, Try.ntmps29
    go_wp2_with (go_at_call 12; (with_reducible refine hg.mono ?_); rintro e wa ⟨rfl, hEa⟩; have HEa := Lib.hid hEa; clear hEa)
    have hE2 := HEa.out.alloc (.cells #[.int .i64 gv.1, .int .i64 gv.2.1, .int .i64 gv.2.2] 36)
    refine (lset_any pid _ (HH.out.ext hE2) hm).mono ?_
    rintro e w2 ⟨⟨u, rfl⟩, hP⟩
    have HP := Lib.hid (hP.ahead hE2)
    clear hP hE2
    go_wp2_with fail
    go_end0
    exact ⟨⟨_, rfl⟩, HP.out⟩

set_option maxRecDepth 100000 in
set_option maxHeartbeats 1000000 in
theorem onExit_any {lb tb : Nat} {K : List (Int × (Int × Int × Int))} {ids : Int} (pid : Int) (w : World) (h : LT w lb tb K ids) (hm : K.length ≤ 1000000) :
    Calls Try.prog 13 #[.pointer (some ⟨lb, 0, none⟩), .int .i64 pid] w fun e w' => e = .returned (.bool (decide ((lookR K pid).1.2.1 = 1))) ∧ LPost w w' lb tb (if (lookR K pid).1.2.1 = 1 then del pid K else K) ids := by
  have hg := linked_any pid w h
  by_cases h1 : (lookR K pid).1.2.1 = 1
  · rw [if_pos h1, decide_eq_true h1]
    rw [decide_eq_true h1] at hg
    have HH := Lib.hid h
    have H2 := Lib.hid (state_there h1 (by decide))
    clear h h1
    go_enter Try.func13, Try.ntmps13
    go_wp2_with (go_at_call 38; (with_reducible refine hg.mono ?_); rintro e wa ⟨rfl, hEa⟩; obtain ⟨c0, _, _⟩ := (HH.out.ext hEa).cells; have HEa := Lib.hid hEa; clear hEa)
    refine (tk_drop pid _ (HH.out.ext HEa.out).tree hm).mono ?_
    rintro e w2 ⟨rfl, ht, hM⟩
    have HP := Lib.hid (LPost.tree (HH.out.ext HEa.out) HEa.out hM ht)
    rw [H2.out]
    clear hM ht
    go_wp2_with fail
    go_ret
    exact ⟨rfl, HP.out⟩
  · rw [if_neg h1, decide_eq_false h1]
    rw [decide_eq_false h1] at hg
    have HH := Lib.hid h
    clear h h1
    go_enter Try.func13, Try.ntmps13
    go_wp2_with (go_at_call 38; (with_reducible refine hg.mono ?_); rintro e wa ⟨rfl, hEa⟩; have HEa := Lib.hid hEa; clear hEa)
    go_ret
    exact ⟨rfl, LPost.same HH.out HEa.out⟩

set_option maxRecDepth 100000 in
set_option maxHeartbeats 1000000 in
theorem onUnlink_any {lb tb : Nat} {K : List (Int × (Int × Int × Int))} {ids : Int} (pid : Int) (w : World) (h : LT w lb tb K ids) (hm : K.length ≤ 1000000) :
    Calls Try.prog 31 #[.pointer (some ⟨lb, 0, none⟩), .int .i64 pid] w fun e w' => (∃ u, e = .returned u) ∧ LPost w w' lb tb (if (lookR K pid).1.2.1 = 1 then del pid K else K) ids := by
  have hg := onExit_any pid w h hm
  obtain ⟨K', hK⟩ : ∃ K', (if (lookR K pid).1.2.1 = 1 then del pid K else K) = K' := ⟨_, rfl⟩
  obtain ⟨b1, hb1⟩ : ∃ b1, decide ((lookR K pid).1.2.1 = 1) = b1 := ⟨_, rfl⟩
  rw [hK] at hg ⊢
  rw [hb1] at hg
  clear hK hb1 h
  go_enter Try.func31, Try.ntmps31
  go_wp2_with (go_at_call 13; (with_reducible refine hg.mono ?_); rintro e wa ⟨rfl, hP⟩; have HP := Lib.hid hP; clear hP)
  go_end0
  exact ⟨⟨_, rfl⟩, HP.out⟩

set_option maxRecDepth 100000 in
set_option maxHeartbeats 1000000 in
theorem onAck_any {lb tb : Nat} {K : List (Int × (Int × Int × Int))} {ids : Int} (pid id : Int) (w : World) (h : LT w lb tb K ids) (hm : K.length ≤ 1000000) :
    Calls Try.prog 26 #[.pointer (some ⟨lb, 0, none⟩), .int .i64 pid, .int .i64 id] w fun e w' =>
      e = .returned (.bool (decide ((lookR K pid).1.2.1 = 2 ∧ (lookR K pid).1.2.2 = id))) ∧ LPost w w' lb tb (if (lookR K pid).1.2.1 = 2 ∧ (lookR K pid).1.2.2 = id then del pid K else K) ids := by
  obtain ⟨c0, _, _⟩ := h.cells
  have hg := tk_get pid w h.tree
  obtain ⟨gv, hgv⟩ : ∃ gv, (lookR K pid).1 = gv := ⟨_, rfl⟩
  have hth := @state_there K pid 2
  rw [hgv] at hg hth ⊢
  have HH := Lib.hid h
  have HT := Lib.hid hth
  clear hgv h hth
  by_cases h1 : gv.2.1 = 2
  · have h2 : (gv.2.1 == 2) = true := beq_iff_eq.2 h1
    by_cases h4 : gv.2.2 = id
    · rw [if_pos ⟨h1, h4⟩, decide_eq_true (⟨h1, h4⟩ : gv.2.1 = 2 ∧ gv.2.2 = id)]
      have h5 : (gv.2.2 == id) = true := beq_iff_eq.2 h4
      have H2 := Lib.hid (HT.out h1 (by decide))
      clear h1 h4
      go_enter Try.func26, Try.ntmps26
      go_wp2_with (go_at_call 12; (with_reducible refine hg.mono ?_); rintro e wa ⟨rfl, hEa⟩; have hE2 := hEa.alloc (.cells #[.int .i64 gv.1, .int .i64 gv.2.1, .int .i64 gv.2.2] 36); obtain ⟨r0, r1, r2, e0, e1, e2⟩ := Box3.cells (Box3.new wa gv); obtain ⟨c1, _, _⟩ := (HH.out.ext hE2).cells; have HE2 := Lib.hid hE2; clear hE2 hEa)
      refine (tk_drop pid _ (HH.out.ext HE2.out).tree hm).mono ?_
      rintro e w2 ⟨rfl, ht, hM⟩
      have HP := Lib.hid (LPost.tree (HH.out.ext HE2.out) HE2.out hM ht)
      rw [H2.out]
      clear hM ht
      go_wp2_with fail
      go_ret
      exact ⟨rfl, HP.out⟩
    · rw [if_neg (fun h => h4 h.2), decide_eq_false (fun h => h4 h.2)]
      have h5 : (gv.2.2 == id) = false := beq_eq_false_iff_ne.2 h4
      clear h1 h4
      go_enter Try.func26, Try.ntmps26
      go_wp2_with (go_at_call 12; (with_reducible refine hg.mono ?_); rintro e wa ⟨rfl, hEa⟩; have hE2 := hEa.alloc (.cells #[.int .i64 gv.1, .int .i64 gv.2.1, .int .i64 gv.2.2] 36); obtain ⟨r0, r1, r2, e0, e1, e2⟩ := Box3.cells (Box3.new wa gv); have HE2 := Lib.hid hE2; clear hE2 hEa)
      go_ret
      exact ⟨rfl, LPost.same HH.out HE2.out⟩
  · rw [if_neg (fun h => h1 h.1), decide_eq_false (fun h => h1 h.1)]
    have h2 : (gv.2.1 == 2) = false := beq_eq_false_iff_ne.2 h1
    clear h1
    go_enter Try.func26, Try.ntmps26
    go_wp2_with (go_at_call 12; (with_reducible refine hg.mono ?_); rintro e wa ⟨rfl, hEa⟩; have hE2 := hEa.alloc (.cells #[.int .i64 gv.1, .int .i64 gv.2.1, .int .i64 gv.2.2] 36); obtain ⟨r0, r1, r2, e0, e1, e2⟩ := Box3.cells (Box3.new wa gv); have HE2 := Lib.hid hE2; clear hE2 hEa)
    go_ret
    exact ⟨rfl, LPost.same HH.out HE2.out⟩

end Go.Proofs.Ytoofhccjjhhipaa
