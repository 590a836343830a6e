/- The table of half-links: Pop, New. -/
import Derived.Test.YtoofhccjjhhipaaVLinks3
namespace Go.Proofs.Ytoofhccjjhhipaa
open Go.RowKit
attribute [local irreducible] Ext

def LPop (w w' : World) (lb tb : Nat) (K : List (Int × (Int × Int × Int))) (ids : Int) (e : Ending) : Prop :=
  (K = [] → e = .returned (.tuple #[.agg #[.int .i64 (((0, 0, 0))).1, .int .i64 (((0, 0, 0))).2.1, .int .i64 (((0, 0, 0))).2.2], .bool false]) ∧ LPost w w' lb tb K ids) ∧
  (∀ x K', K = x :: K' → e = .returned (.tuple #[.agg #[.int .i64 x.2.1, .int .i64 x.2.2.1, .int .i64 x.2.2.2], .bool true]) ∧ LPost w w' lb tb K' ids)

theorem del_first {x : Int × (Int × Int × Int)} {K : List (Int × (Int × Int × Int))} : del x.1 (x :: K) = K := by simp [del]

theorem LPost.box {w wa w2 : World} {lb tb : Nat} {K : List (Int × (Int × Int × Int))} {ids : Int} (hP : LPost wa w2 lb tb K ids) (hE : Ext w wa) {B : Nat} {y : (Int × Int × Int)} (hB : w.heap.size ≤ B) (hlb : lb < w.heap.size) (hz : Box3 w2 B y) (x : (Int × Int × Int)) :
    LPost w (set3r w2 B 0 x) lb tb K ids := by
  have hM : Mod (fun k => k = B) w2 (set3r w2 B 0 x) := set3r_mod (F := fun k => k = B) (Mod.refl _ w2) (.inl rfl) 0 x
  have hM' := (mod_of_ext (F := fun k => k = lb ∨ k = tb) hE).trans hP.2 (fun _ _ h => h)
  refine ⟨⟨hM.keep hP.1.blk (by omega), ?_⟩, set3r_mod hM' (.inr hB) 0 x⟩
  obtain ⟨t, h1, h2, h3⟩ := hP.1.tree
  refine ⟨t, h1.keep hM ?_ ?_, h2, h3⟩
  · rintro k cs fr rfl hk
    rw [show w2.heap[k]? = _ from hz] at hk
    injection hk with hk
    injection hk with _ e
    exact absurd e (by decide)
  · rintro rfl
    obtain ⟨p, hp, _⟩ := h1
    rw [show w2.heap[_]? = _ from hz] at hp
    injection hp with hk
    injection hk with _ e
    exact absurd e (by decide)

set_option maxRecDepth 100000 in
set_option maxHeartbeats 1000000 in
theorem lpop_any {lb tb : Nat} {K : List (Int × (Int × Int × Int))} {ids : Int} (w : World) (h : LT w lb tb K ids) (hm : K.length ≤ 1000000) (hk : ∀ x ∈ K, -9223372036854775808 ≤ x.1) :
    Calls Try.prog 36 #[.pointer (some ⟨lb, 0, none⟩)] w fun e w' => LPop w w' lb tb K ids e := by
  have hE0 : Ext w (w.alloc (.cells #[.int .i64 0, .int .i64 0, .int .i64 0] 36)) := (Ext.refl w).alloc _
  have hz0 : Box3 (w.alloc (.cells #[.int .i64 0, .int .i64 0, .int .i64 0] 36)) w.heap.size (0, 0, 0) := heap_alloc_new w _
  obtain ⟨c0, _, _⟩ := (h.ext hE0).cells
  have hf := tk_first _ (h.ext hE0).tree hk
  have hlt := heap_lt h.blk
  cases K with
  | nil =>
    have HH := Lib.hid h
    have HE0 := Lib.hid hE0
    have HZ0 := Lib.hid hz0
    clear h hE0 hz0 hk
    unfold firstR at hf
    go_enter Try.func36, Try.ntmps36
    go_wp2_with (go_at_call 51; (with_reducible refine hf.mono ?_); rintro e wa ⟨rfl, hEa⟩; obtain ⟨_, _, _, f0, f1, f2⟩ := Box3.cells ((hEa.alloc (.cells #[.int .i64 (((0, 0, 0))).1, .int .i64 (((0, 0, 0))).2.1, .int .i64 (((0, 0, 0))).2.2] 36)).keep HZ0.out); obtain ⟨r0, r1, r2, _, _, _⟩ := Box3.cells (Box3.set ((hEa.alloc (.cells #[.int .i64 (((0, 0, 0))).1, .int .i64 (((0, 0, 0))).2.1, .int .i64 (((0, 0, 0))).2.2] 36)).keep HZ0.out) (0, 0, 0)); obtain ⟨t0, t1, t2, _, _, _⟩ := Box3.cells (Box3.new wa (0, 0, 0)); have HP := Lib.hid (LPost.box (LPost.same ((HH.out.ext HE0.out).ext (hEa.alloc (.cells #[.int .i64 (((0, 0, 0))).1, .int .i64 (((0, 0, 0))).2.1, .int .i64 (((0, 0, 0))).2.2] 36))) (Ext.refl _)) (HE0.out.trans (hEa.alloc (.cells #[.int .i64 (((0, 0, 0))).1, .int .i64 (((0, 0, 0))).2.1, .int .i64 (((0, 0, 0))).2.2] 36))) (Nat.le_refl _) hlt ((hEa.alloc (.cells #[.int .i64 (((0, 0, 0))).1, .int .i64 (((0, 0, 0))).2.1, .int .i64 (((0, 0, 0))).2.2] 36)).keep HZ0.out) (0, 0, 0)); clear hEa)
    exact bodyPost_ret (v := .tuple #[.agg #[.int .i64 (((0, 0, 0))).1, .int .i64 (((0, 0, 0))).2.1, .int .i64 (((0, 0, 0))).2.2], .bool false]) (by simp [results, Try.f36, go_sem, r0, r1, r2]) rfl ⟨fun _ => ⟨rfl, HP.out⟩, fun _ _ h => by cases h⟩
  | cons x K =>
    have hl1 : (lookR (x :: K) x.1) = (x.2, true) := by
      unfold lookR
      rw [look_of_mem h.tree.rising (List.mem_cons_self ..)]
    have HH := Lib.hid h
    have HE0 := Lib.hid hE0
    have HZ0 := Lib.hid hz0
    have HL1 := Lib.hid hl1
    clear h hE0 hz0 hk hl1
    unfold firstR at hf
    go_enter Try.func36, Try.ntmps36
    go_wp2_with (go_at_call 51; (with_reducible refine hf.mono ?_); rintro e wa ⟨rfl, hEa⟩; have hEb := hEa.alloc (.cells #[.int .i64 x.2.1, .int .i64 x.2.2.1, .int .i64 x.2.2.2] 36); obtain ⟨c1, _, _⟩ := ((HH.out.ext HE0.out).ext hEb).cells; have HX := Lib.hid (Box3.new wa x.2); have HEa := Lib.hid hEa; have HEb := Lib.hid hEb; clear hEa hEb)
    refine (tk_drop x.1 _ ((HH.out.ext HE0.out).ext HEb.out).tree hm).mono ?_
    rintro e w2 ⟨rfl, ht, hM⟩
    have hne := HH.out.ne
    have htb : tb < w.heap.size := by
      obtain ⟨t, ⟨p, hp, _⟩, _⟩ := HH.out.tree
      exact heap_lt hp
    have hsa := Ext.size HEa.out
    rw [World.size_alloc] at hsa
    have hz2 : Box3 w2 w.heap.size (0, 0, 0) := hM.keep (HEb.out.keep HZ0.out) (by omega)
    have hx2 : Box3 w2 wa.heap.size x.2 := hM.keep HX.out (by omega)
    rw [del_first] at ht
    have HP := Lib.hid (LPost.box (LPost.tree ((HH.out.ext HE0.out).ext HEb.out) (Ext.refl _) hM ht) (HE0.out.trans HEb.out) (Nat.le_refl _) hlt hz2 x.2)
    obtain ⟨t0, t1, t2, _, _, _⟩ := Box3.cells hx2
    obtain ⟨r0, r1, r2, _, _, _⟩ := Box3.cells (Box3.set hz2 x.2)
    obtain ⟨_, _, _, f0, f1, f2⟩ := Box3.cells hz2
    clear ht hM hz2 hx2 c0 c1
    go_wp2_with fail
    exact bodyPost_ret (v := .tuple #[.agg #[.int .i64 x.2.1, .int .i64 x.2.2.1, .int .i64 x.2.2.2], .bool true]) (by simp [results, Try.f36, go_sem, r0, r1, r2]) rfl ⟨(fun h => by cases h), fun _ _ h => by cases h; exact ⟨rfl, HP.out⟩⟩

set_option maxRecDepth 100000 in
set_option maxHeartbeats 1000000 in
theorem lnew_any (w : World) : Calls Try.prog 8 #[] w fun e w' => ∃ lb tb, e = .returned (.pointer (some ⟨lb, 0, none⟩)) ∧ LT w' lb tb [] 0 ∧ Ext w w' ∧ w.heap.size ≤ lb ∧ w.heap.size ≤ tb := by
  go_enter Try.func8, Try.ntmps8
  go_wp2_with fail
  refine (new_any _).mono ?_
  rintro e w1 ⟨rfl, ht1, hE1⟩
  have HA := Lib.hid (And.intro ht1 hE1)
  clear ht1 hE1
  go_wp2_with fail
  go_ret
  obtain ⟨ht1, hE1⟩ := HA.out
  have hE3 : Ext w1 (w1.alloc (.cells #[.pointer (some ⟨w.heap.size, 0, none⟩), .int .i64 0] 41)) := (Ext.refl w1).alloc _
  exact ⟨w1.heap.size, w.heap.size, rfl, ⟨heap_alloc_new w1 _, .nil, TreeAt.ext hE3 ht1, trivial, rfl⟩, hE1.trans hE3, Ext.size hE1, Nat.le_refl _⟩

end Go.Proofs.Ytoofhccjjhhipaa
