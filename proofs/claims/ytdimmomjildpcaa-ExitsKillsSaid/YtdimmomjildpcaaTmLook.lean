/- The program's Check, Words. -/
import Derived.Test.YtdimmomjildpcaaTmWalk
namespace Go.Proofs.Ytdimmomjildpcaa
open Go.RowKit
attribute [local irreducible] Ext
attribute [local go_sem] run_store_float

/-- What is behind the walk. -/
def endT (t : Tm) : Lk := walkT t 1 ⟨0, 0, false, false⟩

theorem end_check (t : Tm) : checkT t = if (endT t).over then 12 else if (endT t).bad then 4 else 0 := by
  have h := walk_meas t 1 ⟨0, 0, false, false⟩ rfl (by decide)
  unfold checkT endT
  have e1 : (201 : Int) - 1 = 200 := by decide
  have e2 : (65536 : Int) - 0 = 65536 := by decide
  simp only [e1, e2] at h
  rcases h with ⟨h1, h2⟩ | ⟨h1, h2, h3, h4, h5⟩
  · rw [if_pos h1, h2, if_pos rfl]
  · rw [if_neg (by omega), h2, h5]
    cases allT t <;> rfl

theorem end_words (t : Tm) : wordsT t = if (endT t).over then 0 else if (endT t).bad then 0 else (endT t).words := by
  have h := walk_meas t 1 ⟨0, 0, false, false⟩ rfl (by decide)
  unfold wordsT checkT endT
  have e1 : (201 : Int) - 1 = 200 := by decide
  have e2 : (65536 : Int) - 0 = 65536 := by decide
  simp only [e1, e2] at h
  rcases h with ⟨h1, h2⟩ | ⟨h1, h2, h3, h4, h5⟩
  · simp only [if_pos h1, h2]
    rfl
  · have hn : ¬ measT t 200 65536 < 0 := by omega
    simp only [if_neg hn, h2, h5, h3]
    cases allT t <;> simp

/-- The state that looked tells. -/
def lookT (t : Tm) : Lk := if (endT t).over then ⟨0, 0, false, false⟩ else if (endT t).bad then ⟨0, 0, false, false⟩ else endT t

theorem look_words (t : Tm) : (lookT t).words = wordsT t := by
  rw [end_words]
  unfold lookT
  repeat' split
  all_goals rfl

theorem term_okT_float {k n : Int} {f : Nat} {s : ByteArray} {l : List Tm} (h : okT (.mk k n f s l)) : f < 18446744073709551616 := h.1

set_option maxRecDepth 100000 in
set_option maxHeartbeats 2000000 in
theorem looked_any {t : Tm} {own : Bool} {G : Nat → Prop} {v : Value} (w : World) (hv : TmV w own G v t) (hc : cntT t ≤ 100000000) (hok : okT t) :
    Calls Try.prog 31 #[v] w fun e w' =>
      e = .returned (.tuple #[.agg #[.int .i64 (lookT t).words, .int .i64 (lookT t).depth, .bool (lookT t).bad, .bool (lookT t).over], .int .i64 (checkT t)]) ∧ Ext w w' := by
  have hv2 := hv.bound
  have HWK := Lib.hid (fun (w' : World) (b : Nat) (hb : w.heap.size ≤ b) (hE : Ext w w') (hq : LkAt w' b ⟨0, 0, false, false⟩) => walk_any t own _ v b 1 ⟨0, 0, false, false⟩ w' (hv2.ext hE) hq (fun k hk e => by omega) hc hok rfl (by decide) (by decide) (by decide) (by decide))
  obtain ⟨r, hr⟩ : ∃ r, endT t = r := ⟨_, rfl⟩
  rw [end_check]
  unfold lookT
  change Hid (∀ (w' : World) (b : Nat), w.heap.size ≤ b → Ext w w' → LkAt w' b ⟨0, 0, false, false⟩ → Calls Try.prog 36 #[.pointer (some ⟨b, 0, none⟩), v, .int .i64 1] w' fun e w'' => (∃ u, e = .returned u) ∧ LkAt w'' b (endT t) ∧ Mod (fun k => k = b) w' w'') at HWK
  rw [hr] at HWK
  rw [hr]
  obtain ⟨A, hA⟩ : ∃ A : Lk, (if r.over then ⟨0, 0, false, false⟩ else if r.bad then ⟨0, 0, false, false⟩ else r) = A := ⟨_, rfl⟩
  obtain ⟨C, hC⟩ : ∃ C : Int, (if r.over then 12 else if r.bad then 4 else 0) = C := ⟨_, rfl⟩
  rw [hA, hC]
  have HAC := Lib.hid (And.intro hA hC)
  clear hA hC
  obtain ⟨k, n, f, s, L⟩ := t
  obtain ⟨so, cap, rfl, hrow⟩ := hv.parts
  clear hr hv hv2 hc hok hrow
  have hE1 := (Ext.refl w).alloc (.cells #[.int .i64 k, .int .i64 n, .float .f64 f, .string s, .slice so L.length cap] 25)
  have hB1 := RBox.new w k n f s so L.length cap
  obtain ⟨w1, hw1⟩ : ∃ w1, w.alloc (.cells #[.int .i64 k, .int .i64 n, .float .f64 f, .string s, .slice so L.length cap] 25) = w1 := ⟨_, rfl⟩
  rw [hw1] at hE1 hB1
  have hs1 : w1.heap.size = w.heap.size + 1 := by rw [← hw1]; simp
  have hE2 := hE1.alloc (.cells #[.int .i64 0, .int .i64 0, .bool false, .bool false] 64)
  have hz2 : LkAt (w1.alloc (.cells #[.int .i64 0, .int .i64 0, .bool false, .bool false] 64)) w1.heap.size ⟨0, 0, false, false⟩ := heap_alloc_new w1 _
  obtain ⟨w2, hw2⟩ : ∃ w2, w1.alloc (.cells #[.int .i64 0, .int .i64 0, .bool false, .bool false] 64) = w2 := ⟨_, rfl⟩
  rw [hw2] at hE2 hz2
  have hs2 : w2.heap.size = w1.heap.size + 1 := by rw [← hw2]; simp
  have hE12 : Ext w1 w2 := hw2 ▸ (Ext.refl w1).alloc _
  have hE3 := hE2.alloc (.cells #[.int .i64 0, .int .i64 0, .bool false, .bool false] 64)
  have hE23 : Ext w2 (w2.alloc (.cells #[.int .i64 0, .int .i64 0, .bool false, .bool false] 64)) := (Ext.refl w2).alloc _
  have hz3 : LkAt (w2.alloc (.cells #[.int .i64 0, .int .i64 0, .bool false, .bool false] 64)) w2.heap.size ⟨0, 0, false, false⟩ := heap_alloc_new w2 _
  have hwk := HWK.out _ w2.heap.size (by omega) hE3 hz3
  have hz2' := hz2.ext hE23
  rw [hs1] at hz2'
  obtain ⟨z0, z1, z2, z3, z4⟩ := (hB1.ext (hE12.trans hE23)).cells
  have HW1 := Lib.hid hw1
  have HW2 := Lib.hid hw2
  have HS := Lib.hid (And.intro hs1 hs2)
  have HE3 := Lib.hid hE3
  have HZ2 := Lib.hid hz2'
  clear hw1 hw2 hs1 hs2 hE1 hE2 hE12 hE3 hE23 hB1 hz2 hz3 hz2' HWK
  go_enter Try.func31, Try.ntmps31
  go_upto_region 1 with (fail)
  rw [HW1.out, HW2.out]
  go_wp2_with fail
  refine hwk.mono ?_
  rintro e w4 ⟨⟨u, rfl⟩, hq, hM⟩
  have hz4' : LkAt w4 (w.heap.size + 1) ⟨0, 0, false, false⟩ := hM.keep HZ2.out (by have := HS.out; omega)
  obtain ⟨d0, d1, d2, d3, _, _, _, _⟩ := hq.cells
  obtain ⟨_, _, _, _, g0, g1, g2, g3⟩ := LkAt.cells hz4'
  have HE4 := Lib.hid (show Ext w w4 from ext_of_mod HE3.out hM (fun k e => by have := HS.out; omega))
  have hset : ∀ (a b c d : Value), Ext w ((((w4.setCell ⟨w.heap.size + 1, 0, none⟩ a).setCell ⟨w.heap.size + 1, 1, none⟩ b).setCell ⟨w.heap.size + 1, 2, none⟩ c).setCell ⟨w.heap.size + 1, 3, none⟩ d) := by
    intro a b c d
    have hle : w.heap.size ≤ w.heap.size + 1 := by omega
    have h := HE4.out
    unfold Ext at h ⊢
    exact (((h.setCell (p := ⟨w.heap.size + 1, 0, none⟩) (.inr hle) a).setCell (p := ⟨w.heap.size + 1, 1, none⟩) (.inr hle) b).setCell (p := ⟨w.heap.size + 1, 2, none⟩) (.inr hle) c).setCell (p := ⟨w.heap.size + 1, 3, none⟩) (.inr hle) d
  have hzs : ∀ (a b : Int) (c d : Bool), LkAt ((((w4.setCell ⟨w.heap.size + 1, 0, none⟩ (.int .i64 a)).setCell ⟨w.heap.size + 1, 1, none⟩ (.int .i64 b)).setCell ⟨w.heap.size + 1, 2, none⟩ (.bool c)).setCell ⟨w.heap.size + 1, 3, none⟩ (.bool d)) (w.heap.size + 1) ⟨a, b, c, d⟩ := by
    intro a b c d
    exact (((LkAt.words hz4' a).depth b).bad c).over d
  have HSET := Lib.hid hset
  have HZS := Lib.hid hzs
  have HQ := Lib.hid hq
  clear hwk hq hM hset hzs hz4'
  cases ho : r.over with
  | true =>
    rw [ho] at d3
    go_wp2_with fail
    obtain ⟨r0, r1, r2, r3, _, _, _, _⟩ := LkAt.cells (q := ⟨0, 0, false, false⟩) (HZS.out 0 0 false false)
    exact bodyPost_ret (v := .tuple #[.agg #[.int .i64 0, .int .i64 0, .bool false, .bool false], .int .i64 12]) (by simp [results, Try.f31, go_sem, r0, r1, r2, r3]) rfl ⟨by obtain ⟨h1, h2⟩ := HAC.out; simp [ho] at h1 h2; subst h1 h2; rfl, HSET.out _ _ _ _⟩
  | false =>
    rw [ho] at d3
    cases hb : r.bad with
    | true =>
      rw [hb] at d2
      go_wp2_with fail
      obtain ⟨r0, r1, r2, r3, _, _, _, _⟩ := LkAt.cells (q := ⟨0, 0, false, false⟩) (HZS.out 0 0 false false)
      exact bodyPost_ret (v := .tuple #[.agg #[.int .i64 0, .int .i64 0, .bool false, .bool false], .int .i64 4]) (by simp [results, Try.f31, go_sem, r0, r1, r2, r3]) rfl ⟨by obtain ⟨h1, h2⟩ := HAC.out; simp [ho, hb] at h1 h2; subst h1 h2; rfl, HSET.out _ _ _ _⟩
    | false =>
      rw [hb] at d2
      go_wp2_with fail
      obtain ⟨r0, r1, r2, r3, _, _, _, _⟩ := LkAt.cells (q := ⟨r.words, r.depth, false, false⟩) (HZS.out r.words r.depth false false)
      exact bodyPost_ret (v := .tuple #[.agg #[.int .i64 r.words, .int .i64 r.depth, .bool false, .bool false], .int .i64 0]) (by simp [results, Try.f31, go_sem, r0, r1, r2, r3]) rfl ⟨by obtain ⟨h1, h2⟩ := HAC.out; simp [ho, hb] at h1 h2; subst h1 h2; rw [ho, hb], HSET.out _ _ _ _⟩

set_option maxRecDepth 100000 in
set_option maxHeartbeats 1000000 in
theorem pcheck_any {t : Tm} {own : Bool} {G : Nat → Prop} {v : Value} (w : World) (hv : TmV w own G v t) (hc : cntT t ≤ 100000000) (hok : okT t) :
    Calls Try.prog 18 #[v] w fun e w' => e = .returned (.int .i64 (checkT t)) ∧ Ext w w' := by
  have HK := Lib.hid (fun w (hv : TmV w own G v t) => looked_any w hv hc hok)
  obtain ⟨c, hcc⟩ : ∃ c, checkT t = c := ⟨_, rfl⟩
  obtain ⟨q, hq⟩ : ∃ q, lookT t = q := ⟨_, rfl⟩
  rw [hcc, hq] at HK
  rw [hcc]
  obtain ⟨k, n, f, s, L⟩ := t
  obtain ⟨so, cap, rfl, hrow⟩ := hv.parts
  clear hv hc hok hcc hq
  have HE := Lib.hid ((Ext.refl w).alloc (.cells #[.int .i64 k, .int .i64 n, .float .f64 f, .string s, .slice so L.length cap] 25))
  have HR := Lib.hid (hrow.ext HE.out)
  clear hrow
  go_enter Try.func18, Try.ntmps18
  go_wp2_with (go_at_call 31; (with_reducible refine (HK.out _ (TmV.of_parts HR.out)).mono ?_); rintro e wa ⟨rfl, hEa⟩; have HEa := Lib.hid hEa; clear hEa)
  go_ret
  exact ⟨rfl, (HE.out.trans HEa.out).alloc _⟩

end Go.Proofs.Ytdimmomjildpcaa
