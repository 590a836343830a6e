/- The document's halves of monitors: Demonitor, OnDemonitor, PopTarget, PopOrigin. -/
import Derived.Test.YtjgpoggbakanlaaVRef15d
namespace Go.Proofs.Ytjgpoggbakanlaa
open Go.RowKit
attribute [local irreducible] Ext

theorem KL_del {L : List (Int × Int × ByteArray)} {pid : Int} {i : Nat} {x : (Int × Int × ByteArray)} (hx : L[i]? = some x) (hp : place pid (KL L) = i) (hk : x.1 = pid) : del pid (KL L) = KL (L.eraseIdx i) := by
  rw [del_place (a := (x.1, x)) (by rw [hp]; exact KL_at hx) hk, hp]
  unfold KL
  rw [map_erase]

theorem KL_del_none {L : List (Int × Int × ByteArray)} {pid : Int} (hr : Rising (KL L)) (ht : there pid (KL L) = false) : del pid (KL L) = KL L := by
  rcases there_look (key := pid) hr with ⟨h, _⟩ | ⟨_, h⟩
  · rw [ht] at h; cases h
  · exact del_none hr h

theorem Post15.box {w wa w2 : World} {b : Nat} {v1 v2 : Value} {K1 K2 : List (Int × (Int × Int × ByteArray))} (hP : Post15 wa w2 b v1 v2 K1 K2) (hE : Ext w wa) {B : Nat} (hB : w.heap.size ≤ B) (hB2 : B < wa.heap.size) (hb : b < w.heap.size)
    (hv1 : ∀ k, v1.ownBlock = some k → k < w.heap.size) (hv2 : ∀ k, v2.ownBlock = some k → k < w.heap.size) (x : (Int × Int × ByteArray)) : Post15 w (set3r w2 B 0 x) b v1 v2 K1 K2 := by
  obtain ⟨v1', v2', L1', L2', h1, e1, e2, h3, h4, h5⟩ := hP
  have hM : Mod (fun k => k = B) w2 (set3r w2 B 0 x) := set3r_mod (F := fun k => k = B) (Mod.refl _ w2) (.inl rfl) 0 x
  have hM' := (mod_of_ext hE).trans h3 (fun _ _ h => h)
  have hs := Ext.size hE
  refine ⟨v1', v2', L1', L2', ⟨hM.keep h1.blk (by omega), h1.r1.keep hM (fun k hk e => ?_), h1.r2.keep hM (fun k hk e => ?_)⟩, e1, e2, set3r_mod hM' (.inr hB) 0 x, fun k hk => ?_, fun k hk => ?_⟩
  · rcases h4 k hk with h | h
    · have := hv1 k h.symm; omega
    · omega
  · rcases h5 k hk with h | h
    · have := hv2 k h.symm; omega
    · omega
  · rcases h4 k hk with h | h
    · exact .inl h
    · exact .inr (by omega)
  · rcases h5 k hk with h | h
    · exact .inl h
    · exact .inr (by omega)

theorem ext_set3r {w W : World} {B : Nat} (h : Ext w W) (hB : w.heap.size ≤ B) (x : (Int × Int × ByteArray)) : Ext w (set3r W B 0 x) := by
  unfold Ext at h ⊢
  exact set3r_mod (i := 0) h (.inr hB) x

set_option maxRecDepth 100000 in
set_option maxHeartbeats 2000000 in
theorem rdemonitor_any {b : Nat} {v1 v2 : Value} {L1 L2 : List (Int × Int × ByteArray)} (ref : Int) (w : World) (h : R15 w b v1 v2 L1 L2) (hL : L1.length ≤ 1000000) (hr : Rising (KL L1)) :
    Calls Try.prog 28 #[.pointer (some ⟨b, 0, none⟩), .int .i64 ref] w fun e w' =>
      e = .returned (.tuple #[.agg #[.int .i64 ((lookR (KL L1) ref).1).1, .int .i64 ((lookR (KL L1) ref).1).2.1, .string ((lookR (KL L1) ref).1).2.2], .bool (lookR (KL L1) ref).2]) ∧ Post15 w w' b v1 v2 (del ref (KL L1)) (KL L2) := by
  have hE0 : Ext w (w.alloc (.cells #[.int .i64 0, .int .i64 0, .string ⟨#[]⟩] 31)) := (Ext.refl w).alloc _
  have hz0 : Box3 (w.alloc (.cells #[.int .i64 0, .int .i64 0, .string ⟨#[]⟩] 31)) w.heap.size (0, 0, ⟨#[]⟩) := heap_alloc_new w _
  have hf := find15_any ref _ (h.ext hE0).r1 (by omega)
  have c0 := (h.ext hE0).cells.1
  rcases cases15 ref hr with ⟨i, x, hx, hp, hk, ht, hl⟩ | ⟨ht, hl⟩
  · rw [hp, ht] at hf
    rw [hl, KL_del hx hp hk]
    obtain ⟨M, hMM⟩ : ∃ M, L1.eraseIdx i = M := ⟨_, rfl⟩
    rw [hMM]
    have HM := Lib.hid hMM
    clear hMM
    have hin := (List.getElem?_eq_some_iff.1 hx).1
    have hi : (i : Int) < (L1.length : Int) := by omega
    have s0 : (0 : Int) ≤ (i : Int) := by omega
    have hb1 := heap_lt h.blk
    have hv1 := h.r1.lt
    have hv2 := h.r2.lt
    have HH := Lib.hid h
    have HX := Lib.hid hx
    have HE0 := Lib.hid hE0
    have HZ0 := Lib.hid hz0
    have HV := Lib.hid (And.intro hb1 (And.intro hv1 hv2))
    clear h hr ht hl hp hk hE0 hx hz0 hb1 hv1 hv2
    go_enter Try.func28, Try.ntmps28
    go_wp2_with (go_at_call 44; (with_reducible refine hf.mono ?_); rintro e wa ⟨rfl, hEa⟩; have hE1 := HE0.out.trans hEa; have ca := (HH.out.ext hE1).cells.1; obtain ⟨ga, capa, hv, hcap, q0, q1, q2⟩ := (HH.out.ext hE1).r1.at_ HX.out; rw [hv] at ca; have hE2 := hE1.alloc (.cells #[.int .i64 x.1, .int .i64 x.2.1, .string x.2.2] 31); have cb := (HH.out.ext hE2).cells.1; rw [hv] at cb; have HE2 := Lib.hid hE2; have HZ1 := Lib.hid (Box3.alloc (hEa.keep HZ0.out) (.cells #[.int .i64 x.1, .int .i64 x.2.1, .string x.2.2] 31)); have HX1 : Hid (Box3 (wa.alloc (.cells #[.int .i64 x.1, .int .i64 x.2.1, .string x.2.2] 31)) wa.heap.size x) := Lib.hid (heap_alloc_new wa _); have hsa := Ext.size hE1; have HHV := Lib.hid hv; clear hv hE1 hEa hE2)
    have hwo := without15 _ (HH.out.ext HE2.out).r1 hL hin
    rw [HHV.out, HM.out] at hwo
    refine hwo.mono ?_
    rintro e w2 ⟨v', rfl, hrow, hE3, hb⟩
    obtain ⟨so', sc', rfl⟩ := own_slice hrow
    have hHb := HH.out.ext HE2.out
    have h4 := hHb.new1 hE3 hrow (fun k hk => by have := hb k hk; omega)
    have hsz := Ext.size HE0.out
    have hP := h4.box HE2.out (Nat.le_refl _) (by simp; omega) HV.out.1 HV.out.2.1 HV.out.2.2 x
    have fa := (hHb.ext hE3).cells.2.2.1
    have cc := (hHb.ext hE3).cells.1
    have hblk := (hHb.ext hE3).blk
    have hbl := HV.out.1
    have hMs : Mod (fun k => k = b) w2 (w2.setCell ⟨b, 0, none⟩ (.slice so' M.length sc')) := (Mod.refl (fun k => k = b) w2).setCell (p := ⟨b, 0, none⟩) (.inl rfl) _
    obtain ⟨t0, t1, t2, _, _, _⟩ := Box3.cells (hMs.keep (hE3.keep HX1.out) (by omega))
    have hzz : Box3 (w2.setCell ⟨b, 0, none⟩ (.slice so' M.length sc')) w.heap.size (0, 0, ⟨#[]⟩) := hMs.keep (hE3.keep HZ1.out) (by omega)
    obtain ⟨_, _, _, f0, f1, f2⟩ := Box3.cells hzz
    obtain ⟨r0, r1, r2, _, _, _⟩ := Box3.cells (Box3.set hzz x)
    have HP := Lib.hid hP
    clear hrow hb h4 hP hblk hHb hMs hzz hwo hf q0 q1 q2 ca cb hE3
    go_wp2_with fail
    exact bodyPost_ret (v := .tuple #[.agg #[.int .i64 x.1, .int .i64 x.2.1, .string x.2.2], .bool true]) (by simp [results, Try.f28, go_sem, r0, r1, r2]) rfl ⟨rfl, HP.out⟩
  · rw [ht] at hf
    rw [hl, KL_del_none hr ht]
    obtain ⟨i, hi⟩ : ∃ i, place ref (KL L1) = i := ⟨_, rfl⟩
    rw [hi] at hf
    have HH := Lib.hid h
    have HE0 := Lib.hid hE0
    have HZ0 := Lib.hid hz0
    clear h hr ht hl hE0 hz0 hi
    go_enter Try.func28, Try.ntmps28
    go_wp2_with (go_at_call 44; (with_reducible refine hf.mono ?_); rintro e wa ⟨rfl, hEa⟩; have hE1 := HE0.out.trans hEa; obtain ⟨r0, r1, r2, e0, e1, e2⟩ := Box3.cells (Box3.set (hEa.keep HZ0.out) (0, 0, ⟨#[]⟩)); obtain ⟨_, _, _, f0, f1, f2⟩ := Box3.cells (hEa.keep HZ0.out); have HE1 := Lib.hid hE1; clear hE1)
    have hM := ext_set3r HE1.out (Nat.le_refl _) (0, 0, ⟨#[]⟩)
    exact bodyPost_ret (v := .tuple #[.agg #[.int .i64 0, .int .i64 0, .string ⟨#[]⟩], .bool false]) (by simp [results, Try.f28, go_sem, r0, r1, r2]) rfl ⟨rfl, Post15.same HH.out hM⟩

set_option maxRecDepth 100000 in
set_option maxHeartbeats 2000000 in
theorem ronDemonitor_any {b : Nat} {v1 v2 : Value} {L1 L2 : List (Int × Int × ByteArray)} (ref : Int) (w : World) (h : R15 w b v1 v2 L1 L2) (hL : L2.length ≤ 1000000) (hr : Rising (KL L2)) :
    Calls Try.prog 30 #[.pointer (some ⟨b, 0, none⟩), .int .i64 ref] w fun e w' =>
      e = .returned (.bool (lookR (KL L2) ref).2) ∧ Post15 w w' b v1 v2 (KL L1) (del ref (KL L2)) := by
  have hf := find15_any ref _ h.r2 (by omega)
  have c0 := h.cells.2.1
  rcases cases15 ref hr with ⟨i, x, hx, hp, hk, ht, hl⟩ | ⟨ht, hl⟩
  · rw [hp, ht] at hf
    rw [hl, KL_del hx hp hk]
    obtain ⟨M, hMM⟩ : ∃ M, L2.eraseIdx i = M := ⟨_, rfl⟩
    rw [hMM]
    have HM := Lib.hid hMM
    clear hMM
    have hin := (List.getElem?_eq_some_iff.1 hx).1
    have HH := Lib.hid h
    clear h hr ht hl hp hk hx
    go_enter Try.func30, Try.ntmps30
    go_wp2_with (go_at_call 44; (with_reducible refine hf.mono ?_); rintro e wa ⟨rfl, hEa⟩; have ca := (HH.out.ext hEa).cells.2.1; have HEa := Lib.hid hEa; clear hEa)
    have hwo := without15 _ (HH.out.ext HEa.out).r2 hL hin
    rw [HM.out] at hwo
    refine hwo.mono ?_
    rintro e w2 ⟨v', rfl, hrow, hE3, hb⟩
    obtain ⟨so', sc', rfl⟩ := own_slice hrow
    have fa := (HH.out.ext (HEa.out.trans hE3)).cells.2.2.2
    have cb := (HH.out.ext (HEa.out.trans hE3)).cells.2.1
    have hs := Ext.size HEa.out
    have HP := Lib.hid (HH.out.new2 (HEa.out.trans hE3) hrow (fun k hk => by have := hb k hk; omega))
    clear hrow hE3 hb hf hwo
    go_wp2_with fail
    go_ret
    exact ⟨rfl, HP.out⟩
  · rw [ht] at hf
    rw [hl, KL_del_none hr ht]
    obtain ⟨i, hi⟩ : ∃ i, place ref (KL L2) = i := ⟨_, rfl⟩
    rw [hi] at hf
    have HH := Lib.hid h
    clear h hr ht hl hi
    go_enter Try.func30, Try.ntmps30
    go_wp2_with (go_at_call 44; (with_reducible refine hf.mono ?_); rintro e wa ⟨rfl, hEa⟩; have HEa := Lib.hid hEa; clear hEa)
    go_ret
    exact ⟨rfl, Post15.same HH.out HEa.out⟩

/-- What is told by Pop. -/
def popR (K : List (Int × (Int × Int × ByteArray))) : (Int × Int × ByteArray) × Bool := match K with | [] => ((0, 0, ⟨#[]⟩), false) | x :: _ => (x.2, true)

set_option maxRecDepth 100000 in
set_option maxHeartbeats 2000000 in
theorem rpopOrigin_any {b : Nat} {v1 v2 : Value} {L1 L2 : List (Int × Int × ByteArray)} (w : World) (h : R15 w b v1 v2 L1 L2) (hL : L1.length ≤ 1000000) :
    Calls Try.prog 33 #[.pointer (some ⟨b, 0, none⟩)] w fun e w' =>
      e = .returned (.tuple #[.agg #[.int .i64 ((popR (KL L1)).1).1, .int .i64 ((popR (KL L1)).1).2.1, .string ((popR (KL L1)).1).2.2], .bool (popR (KL L1)).2]) ∧ Post15 w w' b v1 v2 (KL L1).tail (KL L2) := by
  have hE0 : Ext w (w.alloc (.cells #[.int .i64 0, .int .i64 0, .string ⟨#[]⟩] 31)) := (Ext.refl w).alloc _
  have hz0 : Box3 (w.alloc (.cells #[.int .i64 0, .int .i64 0, .string ⟨#[]⟩] 31)) w.heap.size (0, 0, ⟨#[]⟩) := heap_alloc_new w _
  have c0 := (h.ext hE0).cells.1
  obtain ⟨so, sc, hv⟩ := own_slice h.r1
  cases L1 with
  | nil =>
    rw [hv] at c0
    obtain ⟨r0, r1, r2, _, _, _⟩ := Box3.cells (Box3.set hz0 (0, 0, ⟨#[]⟩))
    obtain ⟨_, _, _, f0, f1, f2⟩ := Box3.cells hz0
    have HH := Lib.hid h
    have HM := Lib.hid hE0
    clear h hE0 hz0 hv
    go_enter Try.func33, Try.ntmps33
    go_wp2_with fail
    exact bodyPost_ret (v := .tuple #[.agg #[.int .i64 0, .int .i64 0, .string ⟨#[]⟩], .bool false]) (by simp [results, Try.f33, go_sem]) rfl ⟨rfl, Post15.same HH.out HM.out⟩
  | cons x L =>
    obtain ⟨ga, capa, hv2, hcap, q0, q1, q2⟩ := (h.ext hE0).r1.at_ (i := 0) rfl
    rw [hv2] at c0
    have hE2 := hE0.alloc (.cells #[.int .i64 x.1, .int .i64 x.2.1, .string x.2.2] 31)
    have cb := (h.ext hE2).cells.1
    rw [hv2] at cb
    have hwo := without15 _ (h.ext hE2).r1 hL (j := 0) (by simp)
    rw [hv2] at hwo
    have hz1 := hz0.alloc (.cells #[.int .i64 x.1, .int .i64 x.2.1, .string x.2.2] 31)
    have hx1 : Box3 ((w.alloc (.cells #[.int .i64 0, .int .i64 0, .string ⟨#[]⟩] 31)).alloc (.cells #[.int .i64 x.1, .int .i64 x.2.1, .string x.2.2] 31)) (w.heap.size + 1) x := by
      have := heap_alloc_new (w.alloc (.cells #[.int .i64 0, .int .i64 0, .string ⟨#[]⟩] 31)) (.cells #[.int .i64 x.1, .int .i64 x.2.1, .string x.2.2] 31)
      rw [World.size_alloc] at this
      exact this
    have HV := Lib.hid (And.intro (heap_lt h.blk) (And.intro h.r1.lt h.r2.lt))
    have HZ := Lib.hid (And.intro hz1 hx1)
    have HE2 := Lib.hid hE2
    have hpos : (0 : Int) < ((x :: L).length : Int) := by simp only [List.length_cons]; omega
    have hlen : decide (((x :: L).length : Int) = 0) = false := decide_eq_false (by omega)
    have hlen2 : (((x :: L).length : Int) == 0) = false := beq_eq_false_iff_ne.2 (by omega)
    have hcap2 : 0 < capa := by simp at hcap; omega
    have HH := Lib.hid h
    have HX : Hid (v1 = .slice (some ⟨ga, 0, none⟩) (x :: L).length capa) := Lib.hid hv2
    clear h hE0 hz0 hv hE2 hz1 hx1 hv2
    go_enter Try.func33, Try.ntmps33
    go_wp2_with fail
    refine hwo.mono ?_
    rintro e w2 ⟨v', rfl, hrow, hE3, hb⟩
    obtain ⟨so', sc', rfl⟩ := own_slice hrow
    have hHb := HH.out.ext HE2.out
    have h4 := hHb.new1 hE3 hrow (fun k hk => by have := hb k hk; omega)
    have hP := h4.box HE2.out (Nat.le_refl _) (by simp; omega) HV.out.1 HV.out.2.1 HV.out.2.2 x
    have fa := (hHb.ext hE3).cells.2.2.1
    have cc := (hHb.ext hE3).cells.1
    have hbl := HV.out.1
    change Row3 w2 _ L at hrow
    have hMs : Mod (fun k => k = b) w2 (w2.setCell ⟨b, 0, none⟩ (.slice so' L.length sc')) := (Mod.refl (fun k => k = b) w2).setCell (p := ⟨b, 0, none⟩) (.inl rfl) _
    obtain ⟨t0, t1, t2, _, _, _⟩ := Box3.cells (hMs.keep (hE3.keep HZ.out.2) (by omega))
    have hzz : Box3 (w2.setCell ⟨b, 0, none⟩ (.slice so' L.length sc')) w.heap.size (0, 0, ⟨#[]⟩) := hMs.keep (hE3.keep HZ.out.1) (by omega)
    obtain ⟨_, _, _, f0, f1, f2⟩ := Box3.cells hzz
    obtain ⟨r0, r1, r2, _, _, _⟩ := Box3.cells (Box3.set hzz x)
    have HP := Lib.hid hP
    clear hrow hb h4 hP hHb hMs hzz hwo q0 q1 q2 c0 cb hE3
    simp only [List.eraseIdx_cons_zero]
    go_wp2_with fail
    exact bodyPost_ret (v := .tuple #[.agg #[.int .i64 x.1, .int .i64 x.2.1, .string x.2.2], .bool true]) (by simp [results, Try.f33, go_sem, r0, r1, r2]) rfl ⟨rfl, HP.out⟩

set_option maxRecDepth 100000 in
set_option maxHeartbeats 2000000 in
theorem rpopTarget_any {b : Nat} {v1 v2 : Value} {L1 L2 : List (Int × Int × ByteArray)} (w : World) (h : R15 w b v1 v2 L1 L2) (hL : L2.length ≤ 1000000) :
    Calls Try.prog 31 #[.pointer (some ⟨b, 0, none⟩)] w fun e w' =>
      e = .returned (.tuple #[.agg #[.int .i64 ((popR (KL L2)).1).1, .int .i64 ((popR (KL L2)).1).2.1, .string ((popR (KL L2)).1).2.2], .bool (popR (KL L2)).2]) ∧ Post15 w w' b v1 v2 (KL L1) (KL L2).tail := by
  have hE0 : Ext w (w.alloc (.cells #[.int .i64 0, .int .i64 0, .string ⟨#[]⟩] 31)) := (Ext.refl w).alloc _
  have hz0 : Box3 (w.alloc (.cells #[.int .i64 0, .int .i64 0, .string ⟨#[]⟩] 31)) w.heap.size (0, 0, ⟨#[]⟩) := heap_alloc_new w _
  have c0 := (h.ext hE0).cells.2.1
  obtain ⟨so, sc, hv⟩ := own_slice h.r2
  cases L2 with
  | nil =>
    rw [hv] at c0
    obtain ⟨r0, r1, r2, _, _, _⟩ := Box3.cells (Box3.set hz0 (0, 0, ⟨#[]⟩))
    obtain ⟨_, _, _, f0, f1, f2⟩ := Box3.cells hz0
    have HH := Lib.hid h
    have HM := Lib.hid hE0
    clear h hE0 hz0 hv
    go_enter Try.func31, Try.ntmps31
    go_wp2_with fail
    exact bodyPost_ret (v := .tuple #[.agg #[.int .i64 0, .int .i64 0, .string ⟨#[]⟩], .bool false]) (by simp [results, Try.f31, go_sem]) rfl ⟨rfl, Post15.same HH.out HM.out⟩
  | cons x L =>
    obtain ⟨ga, capa, hv2, hcap, q0, q1, q2⟩ := (h.ext hE0).r2.at_ (i := 0) rfl
    rw [hv2] at c0
    have hE2 := hE0.alloc (.cells #[.int .i64 x.1, .int .i64 x.2.1, .string x.2.2] 31)
    have cb := (h.ext hE2).cells.2.1
    rw [hv2] at cb
    have hwo := without15 _ (h.ext hE2).r2 hL (j := 0) (by simp)
    rw [hv2] at hwo
    have hz1 := hz0.alloc (.cells #[.int .i64 x.1, .int .i64 x.2.1, .string x.2.2] 31)
    have hx1 : Box3 ((w.alloc (.cells #[.int .i64 0, .int .i64 0, .string ⟨#[]⟩] 31)).alloc (.cells #[.int .i64 x.1, .int .i64 x.2.1, .string x.2.2] 31)) (w.heap.size + 1) x := by
      have := heap_alloc_new (w.alloc (.cells #[.int .i64 0, .int .i64 0, .string ⟨#[]⟩] 31)) (.cells #[.int .i64 x.1, .int .i64 x.2.1, .string x.2.2] 31)
      rw [World.size_alloc] at this
      exact this
    have HV := Lib.hid (And.intro (heap_lt h.blk) (And.intro h.r1.lt h.r2.lt))
    have HZ := Lib.hid (And.intro hz1 hx1)
    have HE2 := Lib.hid hE2
    have hpos : (0 : Int) < ((x :: L).length : Int) := by simp only [List.length_cons]; omega
    have hlen : decide (((x :: L).length : Int) = 0) = false := decide_eq_false (by omega)
    have hlen2 : (((x :: L).length : Int) == 0) = false := beq_eq_false_iff_ne.2 (by omega)
    have hcap2 : 0 < capa := by simp at hcap; omega
    have HH := Lib.hid h
    have HX : Hid (v2 = .slice (some ⟨ga, 0, none⟩) (x :: L).length capa) := Lib.hid hv2
    clear h hE0 hz0 hv hE2 hz1 hx1 hv2
    go_enter Try.func31, Try.ntmps31
    go_wp2_with fail
    refine hwo.mono ?_
    rintro e w2 ⟨v', rfl, hrow, hE3, hb⟩
    obtain ⟨so', sc', rfl⟩ := own_slice hrow
    have hHb := HH.out.ext HE2.out
    have h4 := hHb.new2 hE3 hrow (fun k hk => by have := hb k hk; omega)
    have hP := h4.box HE2.out (Nat.le_refl _) (by simp; omega) HV.out.1 HV.out.2.1 HV.out.2.2 x
    have fa := (hHb.ext hE3).cells.2.2.2
    have cc := (hHb.ext hE3).cells.2.1
    have hbl := HV.out.1
    change Row3 w2 _ L at hrow
    have hMs : Mod (fun k => k = b) w2 (w2.setCell ⟨b, 1, none⟩ (.slice so' L.length sc')) := (Mod.refl (fun k => k = b) w2).setCell (p := ⟨b, 1, none⟩) (.inl rfl) _
    obtain ⟨t0, t1, t2, _, _, _⟩ := Box3.cells (hMs.keep (hE3.keep HZ.out.2) (by omega))
    have hzz : Box3 (w2.setCell ⟨b, 1, none⟩ (.slice so' L.length sc')) w.heap.size (0, 0, ⟨#[]⟩) := hMs.keep (hE3.keep HZ.out.1) (by omega)
    obtain ⟨_, _, _, f0, f1, f2⟩ := Box3.cells hzz
    obtain ⟨r0, r1, r2, _, _, _⟩ := Box3.cells (Box3.set hzz x)
    have HP := Lib.hid hP
    clear hrow hb h4 hP hHb hMs hzz hwo q0 q1 q2 c0 cb hE3
    simp only [List.eraseIdx_cons_zero]
    go_wp2_with fail
    exact bodyPost_ret (v := .tuple #[.agg #[.int .i64 x.1, .int .i64 x.2.1, .string x.2.2], .bool true]) (by simp [results, Try.f31, go_sem, r0, r1, r2]) rfl ⟨rfl, HP.out⟩

end Go.Proofs.Ytjgpoggbakanlaa
