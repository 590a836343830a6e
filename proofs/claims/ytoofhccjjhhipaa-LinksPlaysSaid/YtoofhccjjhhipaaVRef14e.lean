/- The document's half-links: Unlink, Pop. -/
import Derived.Test.YtoofhccjjhhipaaVRef14d
import Derived.Outline
import Derived.Deep.Cut
import Derived.BigRegion
namespace Go.Proofs.Ytoofhccjjhhipaa
open Go.RowKit
attribute [local irreducible] Ext

/-- What a store of the last identifier leaves. -/
theorem R14.setLast {w : World} {b : Nat} {v : Value} {L : List (Int × Int × Int)} {last : Int} (h : R14 w b v L last) (n : Int) : R14 (w.setCell ⟨b, 1, none⟩ (.int .i64 n)) b v L n := by
  refine ⟨by simpa using heap_set (o := 1) h.blk (.int .i64 n), h.row.keep ((Mod.refl (fun k => k = b) w).setCell (p := ⟨b, 1, none⟩) (.inl rfl) _) (fun k hk e => h.ne (by rw [hk, e]))⟩

theorem KL_put {L : List (Int × Int × Int)} {pid : Int} {i : Nat} {a : (Int × Int × Int)} (ha : L[i]? = some a) (hp : place pid (KL L) = i) (hk : a.1 = pid) (y : (Int × Int × Int)) (hy : y.1 = pid) : ins pid y (KL L) = KL (L.set i y) := by
  rw [KL_set L y pid hy, ← hp]
  exact ins_there (by rw [hp]; exact KL_at ha) hk

def Un14 (w w' : World) (b : Nat) (v : Value) (last pid : Int) (K : List (Int × (Int × Int × Int))) (e : Ending) : Prop :=
  (((lookR K pid).2 = false ∨ (lookR K pid).1.2.1 = 2) → e = .returned (.tuple #[.int .i64 0, .bool false]) ∧ Post14 w w' b v last K) ∧
  ((lookR K pid).2 = true → (lookR K pid).1.2.1 ≠ 2 → e = .returned (.tuple #[.int .i64 (IntKind.i64.wrap (last + 1)), .bool true]) ∧ Post14 w w' b v (IntKind.i64.wrap (last + 1)) (ins pid (pid, 2, IntKind.i64.wrap (last + 1)) K))

def Pop14 (w w' : World) (b : Nat) (v : Value) (last : Int) (L : List (Int × Int × Int)) (e : Ending) : Prop :=
  (L = [] → e = .returned (.tuple #[.agg #[.int .i64 (((0, 0, 0))).1, .int .i64 (((0, 0, 0))).2.1, .int .i64 (((0, 0, 0))).2.2], .bool false]) ∧ Post14 w w' b v last (KL L)) ∧
  (∀ x L', L = x :: L' → e = .returned (.tuple #[.agg #[.int .i64 x.1, .int .i64 x.2.1, .int .i64 x.2.2], .bool true]) ∧ Post14 w w' b v last (KL L'))

set_option maxRecDepth 100000 in
set_option maxHeartbeats 2000000 in
theorem unlink14_any {b : Nat} {v : Value} {L : List (Int × Int × Int)} {last : Int} (pid : Int) (w : World) (h : R14 w b v L last) (hL : L.length ≤ 1000000) (hr : Rising (KL L)) :
    Calls Try.prog 11 #[.pointer (some ⟨b, 0, none⟩), .int .i64 pid] w fun e w' => Un14 w w' b v last pid (KL L) e := by
  have hf := find14_any pid w h (by omega)
  rcases cases14 pid hr with ⟨i, x, hx, hp, hk, ht, hl⟩ | ⟨ht, hl⟩
  · rw [hp, ht] at hf
    have HI := Lib.hid (KL_put hx hp hk (pid, 2, IntKind.i64.wrap (last + 1)) rfl)
    have HL := Lib.hid hl
    have hin := (List.getElem?_eq_some_iff.1 hx).1
    have hi : (i : Int) < (L.length : Int) := by omega
    have s0 : (0 : Int) ≤ (i : Int) := by omega
    have HH := Lib.hid h
    have HX := Lib.hid hx
    clear h hr ht hl hp hk hx
    by_cases h1 : x.2.1 = 2
    · have h2 : (x.2.1 == 2) = true := beq_iff_eq.2 h1
      have h3 : decide (x.2.1 = 2) = true := decide_eq_true h1
      have H1 := Lib.hid h1
      clear h1
      go_enter Try.func11, Try.ntmps11
      go_wp2_with (go_at_call 40; (with_reducible refine hf.mono ?_); rintro e wa ⟨rfl, hEa⟩; obtain ⟨c0, c1, d0, d1⟩ := (HH.out.ext hEa).cells; obtain ⟨ga, capa, hv, hcap, q0, q1, q2⟩ := (HH.out.ext hEa).row.at_ HX.out; rw [hv] at c0; have HEa := Lib.hid hEa; have HV := Lib.hid hv; clear hv hEa)
      go_ret2
      unfold Un14
      rw [HL.out]
      exact ⟨fun _ => ⟨rfl, Post14.same HH.out HEa.out⟩, fun _ h => absurd H1.out h⟩
    · have h2 : (x.2.1 == 2) = false := beq_eq_false_iff_ne.2 h1
      have h3 : decide (x.2.1 = 2) = false := decide_eq_false h1
      have H1 := Lib.hid h1
      clear h1
      have HI' := HI.out
      unfold Un14
      obtain ⟨nl, hnl⟩ : ∃ nl, IntKind.i64.wrap (last + 1) = nl := ⟨_, rfl⟩
      rw [hnl, HL.out]
      rw [hnl] at HI'
      have HI2 := Lib.hid HI'
      clear HI'
      have hgoal : ∀ (w' : World) (e : Ending), (e = .returned (.tuple #[.int .i64 nl, .bool true]) ∧ Post14 w w' b v nl (KL (L.set i (pid, 2, nl)))) → (((x, true).2 = false ∨ (x, true).1.2.1 = 2) → e = .returned (.tuple #[.int .i64 0, .bool false]) ∧ Post14 w w' b v last (KL L)) ∧
        ((x, true).2 = true → (x, true).1.2.1 ≠ 2 → e = .returned (.tuple #[.int .i64 nl, .bool true]) ∧ Post14 w w' b v nl (ins pid (pid, 2, nl) (KL L))) := by
        intro w' e h
        rw [HI2.out]
        exact ⟨fun h' => (h'.elim (fun h => by cases h) (fun h => absurd h H1.out)), fun _ _ => h⟩
      refine Calls.mono (R := fun e w' => e = .returned (.tuple #[.int .i64 nl, .bool true]) ∧ Post14 w w' b v nl (KL (L.set i (pid, 2, nl)))) ?_ (fun e w' h => hgoal w' e h)
      clear hgoal
      go_enter Try.func11, Try.ntmps11
      go_upto_region 5 with (go_at_call 40; (with_reducible refine hf.mono ?_); rintro e wa ⟨rfl, hEa⟩; obtain ⟨c0, c1, d0, d1⟩ := (HH.out.ext hEa).cells; obtain ⟨ga, capa, hv, hcap, q0, q1, q2⟩ := (HH.out.ext hEa).row.at_ HX.out; rw [hv] at c0; have HEa := Lib.hid hEa; have HV := Lib.hid hv; clear hv hEa)
      have h5 := (HH.out.ext HEa.out).setLast nl
      have hM5 : Mod (fun k => k = b) w (wa.setCell ⟨b, 1, none⟩ (.int .i64 nl)) := Mod.setCell (F := fun k => k = b) (mod_of_ext HEa.out) (p := ⟨b, 1, none⟩) (.inl rfl) _
      clear c0 c1 d0 d1 q0 q1 q2
      generalize wa.setCell ⟨b, 1, none⟩ (.int .i64 nl) = wb at h5 hM5 ⊢
      obtain ⟨c0, c1, d0, d1⟩ := h5.cells
      obtain ⟨g2, cap2, he2, _, q0, q1, q2⟩ := h5.row.at_ HX.out
      rw [HV.out] at he2 c0
      injection he2 with he2
      injection he2 with he2
      injection he2 with he2
      subst he2
      have hR5 : Row3 wb (.slice (some ⟨ga, 0, none⟩) L.length capa) L := HV.out ▸ h5.row
      have f0 := Row3.free hR5 (i * 3)
      have f1 := Row3.free hR5 (i * 3 + 1)
      have f2 := Row3.free hR5 (i * 3 + 2)
      have hne := h5.ne
      rw [HV.out] at hne
      have h6 := hR5.set hin (pid, 2, nl)
      have hblk : (set3r wb ga i (pid, 2, nl)).heap[b]? = some (.cells #[.slice (some ⟨ga, 0, none⟩) L.length capa, .int .i64 nl] 29 (0, 0)) := by
        rw [← HV.out]
        exact (set3r_mod (F := fun k => k = ga) (Mod.refl _ wb) (.inl rfl) i (pid, 2, nl)).keep h5.blk (fun e => hne (by rw [e]; rfl))
      have h7 : R14 (set3r wb ga i (pid, 2, nl)) b (.slice (some ⟨ga, 0, none⟩) L.length capa) (L.set i (pid, 2, nl)) nl := ⟨hblk, h6⟩
      have hM6 : Mod (fun k => k = b ∨ some k = v.ownBlock) w (set3r wb ga i (pid, 2, nl)) := by
        rw [HV.out]
        exact set3r_mod (hM5.mono (fun _ _ h => .inl h)) (.inl (.inr rfl)) i (pid, 2, nl)
      have HP : Hid (Post14 w (set3r wb ga i (pid, 2, nl)) b v nl (KL (L.set i (pid, 2, nl)))) := Lib.hid ⟨_, _, h7, rfl, hM6, fun k hk => .inl (by rw [HV.out]; exact hk.symm)⟩
      have z1 := h7.cells.2.1
      clear h5 hM5 h6 h7 hM6 hblk hR5 hne
      unfold set3r at z1 HP
      go_region
      all_goals go_wp2
      all_goals go_ret2
      all_goals exact ⟨rfl, Post14.after (Ext.refl w) HP.out _ (Ext.refl _).drew⟩
  · rw [ht] at hf
    have HL := Lib.hid hl
    obtain ⟨i, hi⟩ : ∃ i, place pid (KL L) = i := ⟨_, rfl⟩
    rw [hi] at hf
    have HH := Lib.hid h
    clear h hr ht hl hi
    go_enter Try.func11, Try.ntmps11
    go_wp2_with (go_at_call 40; (with_reducible refine hf.mono ?_); rintro e wa ⟨rfl, hEa⟩; have HEa := Lib.hid hEa; clear hEa)
    go_ret2
    unfold Un14
    rw [HL.out]
    exact ⟨fun _ => ⟨rfl, Post14.same HH.out HEa.out⟩, fun h => by cases h⟩

theorem look_first {x : (Int × Int × Int)} {L : List (Int × Int × Int)} (hr : Rising (KL (x :: L))) : lookR (KL (x :: L)) x.1 = (x, true) ∧ del x.1 (KL (x :: L)) = KL L := by
  have hm : (x.1, x) ∈ KL (x :: L) := by simp [KL]
  have h1 := look_of_mem hr hm
  refine ⟨by unfold lookR; rw [h1], ?_⟩
  simp [KL, del]

theorem Post14.box {w wa w2 : World} {b : Nat} {v : Value} {last : Int} {K : List (Int × (Int × Int × Int))} (hP : Post14 wa w2 b v last K) (hE : Ext w wa) {B : Nat} (hB : w.heap.size ≤ B) (hB2 : B < wa.heap.size) (hb : b < w.heap.size) (hv : ∀ k, v.ownBlock = some k → k < w.heap.size) (x : (Int × Int × Int)) :
    Post14 w (set3r w2 B 0 x) b v last K := by
  obtain ⟨v', L', h1, h2, h3, h4⟩ := hP
  have hM : Mod (fun k => k = B) w2 (set3r w2 B 0 x) := set3r_mod (F := fun k => k = B) (Mod.refl _ w2) (.inl rfl) 0 x
  have hM' := (mod_of_ext hE).trans h3 (fun _ _ h => h)
  have hs := Ext.size hE
  refine ⟨v', L', ⟨hM.keep h1.blk (by omega), h1.row.keep hM (fun k hk e => ?_)⟩, h2, set3r_mod hM' (.inr hB) 0 x, fun k hk => ?_⟩
  · rcases h4 k hk with h | h
    · have := hv k h.symm; omega
    · omega
  · rcases h4 k hk with h | h
    · exact .inl h
    · exact .inr (by omega)

set_option maxRecDepth 100000 in
set_option maxHeartbeats 2000000 in
theorem pop14_any {b : Nat} {v : Value} {L : List (Int × Int × Int)} {last : Int} (w : World) (h : R14 w b v L last) (hL : L.length ≤ 1000000) :
    Calls Try.prog 37 #[.pointer (some ⟨b, 0, none⟩)] w fun e w' => Pop14 w w' b v last L e := by
  have hE0 : Ext w (w.alloc (.cells #[.int .i64 0, .int .i64 0, .int .i64 0] 36)) := (Ext.refl w).alloc _
  have hz0 : Box3 (w.alloc (.cells #[.int .i64 0, .int .i64 0, .int .i64 0] 36)) w.heap.size (0, 0, 0) := heap_alloc_new w _
  obtain ⟨c0, _, _, _⟩ := (h.ext hE0).cells
  obtain ⟨so, sc, hv⟩ := own_slice h.row
  cases L with
  | nil =>
    rw [hv] at c0
    obtain ⟨r0, r1, r2, _, _, _⟩ := Box3.cells (Box3.set hz0 (0, 0, 0))
    obtain ⟨_, _, _, f0, f1, f2⟩ := Box3.cells hz0
    have HH := Lib.hid h
    have HE0 := Lib.hid hE0
    have HZ0 := Lib.hid hz0
    clear h hE0 hz0 hv
    go_enter Try.func37, Try.ntmps37
    go_wp2_with fail
    exact bodyPost_ret (v := .tuple #[.agg #[.int .i64 (((0, 0, 0))).1, .int .i64 (((0, 0, 0))).2.1, .int .i64 (((0, 0, 0))).2.2], .bool false]) (by simp [results, Try.f37, go_sem]) rfl ⟨fun _ => ⟨rfl, Post14.same HH.out HE0.out⟩, fun _ _ h => by cases h⟩
  | cons x L =>
    obtain ⟨ga, capa, hv2, hcap, q0, q1, q2⟩ := (h.ext hE0).row.at_ (i := 0) rfl
    rw [hv2] at c0
    have hE1 := hE0.alloc (.cells #[.int .i64 x.1, .int .i64 x.2.1, .int .i64 x.2.2] 36)
    have hd := drop14 _ (h.ext hE1) hL (j := 0) (by simp)
    have hz1 := hz0.alloc (.cells #[.int .i64 x.1, .int .i64 x.2.1, .int .i64 x.2.2] 36)
    have hx1 : Box3 ((w.alloc (.cells #[.int .i64 0, .int .i64 0, .int .i64 0] 36)).alloc (.cells #[.int .i64 x.1, .int .i64 x.2.1, .int .i64 x.2.2] 36)) (w.heap.size + 1) x := by
      have := heap_alloc_new (w.alloc (.cells #[.int .i64 0, .int .i64 0, .int .i64 0] 36)) (.cells #[.int .i64 x.1, .int .i64 x.2.1, .int .i64 x.2.2] 36)
      rw [World.size_alloc] at this
      exact this
    have hlt := heap_lt h.blk
    have hvl := h.row.lt
    have HZ := Lib.hid (And.intro hz1 hx1)
    have HE1 := Lib.hid hE1
    have hpos : (0 : Int) < ((x :: L).length : Int) := by simp only [List.length_cons]; omega
    have hlen : decide (((x :: L).length : Int) = 0) = false := decide_eq_false (by omega)
    have hlen2 : (((x :: L).length : Int) == 0) = false := beq_eq_false_iff_ne.2 (by omega)
    have hcap2 : 0 < capa := by simp at hcap; omega
    clear h hE0 hz0 hv hE1 hz1 hx1
    go_enter Try.func37, Try.ntmps37
    go_wp2_with fail
    refine hd.mono ?_
    rintro e w2 ⟨⟨u, rfl⟩, hP⟩
    have hkeep : ∀ B y, B < w.heap.size + 2 → w.heap.size ≤ B → Box3 ((w.alloc (.cells #[.int .i64 0, .int .i64 0, .int .i64 0] 36)).alloc (.cells #[.int .i64 x.1, .int .i64 x.2.1, .int .i64 x.2.2] 36)) B y → Box3 w2 B y := by
      intro B y h1 h2 h3
      obtain ⟨v', L', _, _, hM, _⟩ := hP
      refine hM.keep h3 ?_
      rintro (e | e)
      · omega
      · have := hvl B e.symm
        omega
    have hz2 := hkeep _ _ (by omega) (by omega) HZ.out.1
    have hx2 := hkeep _ _ (by omega) (by omega) HZ.out.2
    obtain ⟨t0, t1, t2, _, _, _⟩ := Box3.cells hx2
    obtain ⟨r0, r1, r2, _, _, _⟩ := Box3.cells (Box3.set hz2 x)
    obtain ⟨_, _, _, f0, f1, f2⟩ := Box3.cells hz2
    have HP := Lib.hid (hP.box HE1.out (B := w.heap.size) (Nat.le_refl _) (by simp; omega) hlt hvl x)
    clear hP hkeep hz2 hx2 c0 q0 q1 q2
    go_wp2_with fail
    exact bodyPost_ret (v := .tuple #[.agg #[.int .i64 x.1, .int .i64 x.2.1, .int .i64 x.2.2], .bool true]) (by simp [results, Try.f37, go_sem, r0, r1, r2]) rfl ⟨(fun h => by cases h), fun _ _ h => by cases h; exact ⟨rfl, HP.out⟩⟩

end Go.Proofs.Ytoofhccjjhhipaa
