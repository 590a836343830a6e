/- The iterator over a tree: over, the closure of From, From, All: at the wide fence. -/
import Derived.Test.YtjgpoggbakanlaaVTreeTop
import Derived.RangeFuncKeeps
import Derived.RangeFuncFrom
import Derived.RangeFuncBound
import Derived.RangeFuncLeaves
import Derived.Shelf.Abstract
import Derived.OwnWalkIn
import Derived.TacticsInMore
import Derived.Sort.QuietIn
import Derived.Stop.RegionWithIn
namespace Go.Proofs.Ytjgpoggbakanlaa
open Go.RowKit Go.Shelf
attribute [local irreducible] Ext
attribute [local go_sem] Oper.semAt_some

theorem room_of_none {F : Fence} (hd : F.depth = none) (k : Nat) : F.room k := fun d h => by rw [hd] at h; cases h
theorem RoundIn.anyDepth {F : Fence} (hd : F.depth = none) {m m' : Nat} {P : Program} {l : Nat} {f : FuncId} {tmps : Array Value} {assign body : Code} {w : World} {R : Ending → World → Prop}
    (h : RoundIn F m P l f tmps assign body w R) : RoundIn F m' P l f tmps assign body w R := ⟨h.1, fun c cs _ => h.2 c cs (room_of_none hd _)⟩
theorem YieldAt.anyDepth {F : Fence} (hd : F.depth = none) {m : Nat} (m' : Nat) {P : Program} {l : Nat} {args : Array Value} {W : World} {R : Ending → World → Prop} (h : YieldAt F m P l args W R) : YieldAt F m' P l args W R := by
  obtain ⟨fn, tmps, assign, body, hy, hR⟩ := h
  exact ⟨fn, tmps, assign, body, hy, RoundIn.anyDepth hd hR⟩

/-- No node is written. -/
def KeepT (W W' : World) : Prop := ∀ (k : Nat) (cs : Array Value) (fr : Nat × Nat), W.heap[k]? = some (Obj.cells cs 104 fr) → W'.heap[k]? = some (Obj.cells cs 104 fr)

theorem KeepT.refl (W : World) : KeepT W W := fun _ _ _ h => h
theorem KeepT.trans {A B C : World} (h : KeepT A B) (k : KeepT B C) : KeepT A C := fun i cs fr hi => k i cs fr (h i cs fr hi)
theorem KeepT.putObj {W : World} {l : Nat} {o : Obj} (o' : Obj) (hl : W.heap[l]? = some o) (ho : o.isCells = false) : KeepT W (W.putObj l o') := by
  intro k cs fr hk
  by_cases h : k = l
  · subst h
    rw [hl] at hk
    injection hk with hk
    subst hk
    simp [Obj.isCells] at ho
  · rw [World.putObj_heap_other h]
    exact hk
theorem KeepT.ext {W W' : World} (h : Ext W W') : KeepT W W' := fun _ _ _ hk => h.keep hk
theorem KeepT.of_mod {F : Nat → Prop} {W W' : World} (hM : Mod F W W') (hF : ∀ k cs fr, F k → W.heap[k]? ≠ some (.cells cs 104 fr)) : KeepT W W' := fun k cs fr hk => hM.keep hk (fun hf => hF k cs fr hf hk)

theorem IsTree.keepT {W W' : World} (h : KeepT W W') : ∀ {t : Tr (Int × Int × ByteArray)} {p : Option Addr}, IsTree W p t → IsTree W' p t
  | .nil, _, ht => ht
  | .node _ _ _ _, _, ⟨b, pl, pr, e, hb, hl, hr⟩ => ⟨b, pl, pr, e, h _ _ _ hb, IsTree.keepT h hl, IsTree.keepT h hr⟩

/-- What 'over' hands on, from a key on. -/
def overL (key : Int) : Tr (Int × Int × ByteArray) → List (Int × (Int × Int × ByteArray))
  | .nil => []
  | .node l k v r => if k < key then overL key r else overL key l ++ (k, v) :: overL key r

def enc2 (x : Int × (Int × Int × ByteArray)) : Array Value := #[.int .i64 x.1, .agg #[.int .i64 x.2.1, .int .i64 x.2.2.1, .string x.2.2.2]]

theorem over_cells {W W1 : World} {b : Nat} {k : Int} {v : (Int × Int × ByteArray)} {pl pr : Option Addr} {h n : Int} (hb : W.heap[b]? = some (.cells (nodeCells k v pl pr h n) 104 (0, 0))) (hk : KeepT W W1) :
    W1.cell? ⟨b, 0, none⟩ = some (.int .i64 k) ∧ (W1.cell? ⟨b, 1, none⟩ = some (.int .i64 v.1) ∧ W1.cell? ⟨b, 2, none⟩ = some (.int .i64 v.2.1) ∧ W1.cell? ⟨b, 3, none⟩ = some (.string v.2.2)) ∧ W1.cell? ⟨b, 4, none⟩ = some (.pointer pl) ∧ W1.cell? ⟨b, 5, none⟩ = some (.pointer pr) := by
  have hb' := hk _ _ _ hb
  simp [cell_of_heap hb', nodeCells]

set_option maxRecDepth 100000 in
set_option maxHeartbeats 2000000 in
theorem over_in (F : Fence) (hd : F.depth = none) (h6 : F.fn 67) (hro : F.round = none) (l N : Nat) (key : Int) (J Jx : List (Int × (Int × Int × ByteArray)) → World → Prop) (hJd : ∀ pre W, J pre W → J pre W.drew)
    (hY : ∀ m pre x W, J pre W → pre.length < N → YieldAt F m Try.prog l (enc2 x) W fun e W' =>
      (e = .returned (.bool true) ∧ J (pre ++ [x]) W' ∧ KeepT W W') ∨ (e = .returned (.bool false) ∧ Jx (pre ++ [x]) W')) (T : Tr (Int × Int × ByteArray)) :
    ∀ (n : Nat) (p : Option Addr) (pre : List (Int × (Int × Int × ByteArray))) (W : World), IsTree W p T → J pre W → pre.length + (overL key T).length ≤ N →
      CallsIn F n Try.prog 67 #[.pointer p, .int .i64 key, .func (.yield l) #[] #[]] W fun e W' =>
        (e = .returned (.bool true) ∧ J (pre ++ overL key T) W' ∧ KeepT W W') ∨ (e = .returned (.bool false) ∧ ∃ q, q <+: overL key T ∧ Jx (pre ++ q) W') := by
  induction T with
  | nil =>
    intro n p pre W ht hJ _
    obtain rfl : p = none := ht
    refine callsIn_of_wp Try.func67 rfl h6 ?_ hro
    simp only [Try.ntmps67, List.size_toArray, List.length_cons, List.length_nil, Nat.reduceAdd, Nat.reduceSub, Array.replicate_succ, Array.replicate_zero, List.push_toArray, List.append_toArray, List.nil_append, List.cons_append]
    gi_wp2
    go_ret
    exact .inl ⟨rfl, by simpa [overL] using hJ, KeepT.refl _⟩
  | node tl k v tr ihl ihr =>
    intro n p pre W ht hJ hN
    obtain ⟨b, pl, pr, rfl, hb, hl, hr⟩ := ht
    have hdd : ∀ k : Nat, (F.depth.isSome = true → 1 ≤ k) := fun k h => by rw [hd] at h; cases h
    obtain ⟨c0, ⟨c1, c1b, c1c⟩, c2, c3⟩ := over_cells hb (KeepT.refl W)
    by_cases hk : k < key
    · have hR : overL key (.node tl k v tr) = overL key tr := by simp only [overL, if_pos hk]
      rw [hR] at hN ⊢
      have ih2 := ihr (n - 1) pr pre W hr hJ hN
      clear ihl ihr hR hb hl hr hY
      refine callsIn_of_wp Try.func67 rfl h6 ?_ hro
      simp only [Try.ntmps67, List.size_toArray, List.length_cons, List.length_nil, Nat.reduceAdd, Nat.reduceSub, Array.replicate_succ, Array.replicate_zero, List.push_toArray, List.append_toArray, List.nil_append, List.cons_append]
      gi_wp2_with ((try refine ⟨hdd _, ?_⟩); gi_at_call 67; (with_reducible refine ih2.mono ?_); clear ih2; rintro e W1 (⟨rfl, hJ1, hk1⟩ | ⟨rfl, q, hq, hx1⟩))
      · go_ret
        exact .inl ⟨rfl, hJ1, hk1⟩
      · go_ret
        exact .inr ⟨rfl, q, hq, hx1⟩
    · have hR : overL key (.node tl k v tr) = overL key tl ++ (k, v) :: overL key tr := by simp only [overL, if_neg hk]
      rw [hR] at hN ⊢
      simp only [List.length_append, List.length_cons] at hN
      have hy2 : ∀ W1, J (pre ++ overL key tl) W1 → KeepT W W1 → YieldAt F (n - 1) Try.prog l #[.int .i64 k, .agg #[.int .i64 v.1, .int .i64 v.2.1, .string v.2.2]] W1 fun e W2 =>
          (e = .returned (.bool true) ∧ J (pre ++ overL key tl ++ [(k, v)]) W2 ∧ KeepT W W2 ∧ W2.cell? ⟨b, 5, none⟩ = some (.pointer pr) ∧ IsTree W2 pr tr) ∨ (e = .returned (.bool false) ∧ Jx (pre ++ overL key tl ++ [(k, v)]) W2) := fun W1 hJ1 hb1 =>
        YieldAt.mono (hY (n - 1) _ (k, v) W1 hJ1 (by simp; omega)) fun e W2 h => h.elim
          (fun ⟨he, hj, hb2⟩ => .inl ⟨he, hj, hb1.trans hb2, (over_cells hb (hb1.trans hb2)).2.2.2, hr.keepT (hb1.trans hb2)⟩) .inr
      have ih1 := (ihl (n - 1) pl pre W.drew (IsTree.keepT (W := W) (W' := W.drew) (fun _ _ _ h => h) hl) (hJd _ _ hJ) (by omega)).mono (R' := fun e W1 =>
          (e = .returned (.bool true) ∧ W1.cell? ⟨b, 0, none⟩ = some (.int .i64 k) ∧ (W1.cell? ⟨b, 1, none⟩ = some (.int .i64 v.1) ∧ W1.cell? ⟨b, 2, none⟩ = some (.int .i64 v.2.1) ∧ W1.cell? ⟨b, 3, none⟩ = some (.string v.2.2)) ∧ YieldAt F (n - 1) Try.prog l #[.int .i64 k, .agg #[.int .i64 v.1, .int .i64 v.2.1, .string v.2.2]] W1 fun e W2 =>
            (e = .returned (.bool true) ∧ J (pre ++ overL key tl ++ [(k, v)]) W2 ∧ KeepT W W2 ∧ W2.cell? ⟨b, 5, none⟩ = some (.pointer pr) ∧ IsTree W2 pr tr) ∨ (e = .returned (.bool false) ∧ Jx (pre ++ overL key tl ++ [(k, v)]) W2)) ∨
          (e = .returned (.bool false) ∧ ∃ q, q <+: overL key tl ∧ Jx (pre ++ q) W1))
        (fun e W1 h => h.elim (fun ⟨he, hj, hb1⟩ => .inl ⟨he, (over_cells hb hb1).1, (over_cells hb hb1).2.1, hy2 W1 hj hb1⟩) .inr)
      have hN2 : (pre ++ overL key tl ++ [(k, v)]).length + (overL key tr).length ≤ N := by simp; omega
      have ih3 : ∀ W2, J (pre ++ overL key tl ++ [(k, v)]) W2 → IsTree W2 pr tr → _ := fun W2 h1 h2 => ihr (n - 1) pr _ W2 h2 h1 hN2
      clear hy2 ihl ihr hb hY
      refine callsIn_of_wp Try.func67 rfl h6 ?_ hro
      simp only [Try.ntmps67, List.size_toArray, List.length_cons, List.length_nil, Nat.reduceAdd, Nat.reduceSub, Array.replicate_succ, Array.replicate_zero, List.push_toArray, List.append_toArray, List.nil_append, List.cons_append]
      gi_wp2_with fail
      refine wpIn_region_any (by kernel_rfl) ?_
      change wpAnyIn _ _ _ _ _ _ _ _ _ (World.drew _)
      refine wpAnyIn_take (i := 0) (v := ?_) hro rfl (by kernel_rfl) (by kernel_rfl) (by kernel_rfl) (fun _ _ _ h => h) ⟨Or.inl ⟨by kernel_rfl, ?_⟩, fun _ => by kernel_rfl⟩ ?_
      rotate_left
      · (intro w; go_simp); try rfl
      refine wpAnyIn_take (i := 1) (v := ?_) hro rfl (by kernel_rfl) (by kernel_rfl) (by kernel_rfl) (fun _ _ _ h => h) ⟨Or.inl ⟨by kernel_rfl, ?_⟩, fun _ => by kernel_rfl⟩ ?_
      rotate_left
      · (intro w; go_simp); try rfl
      refine wpAnyIn_take (i := 2) (v := ?_) hro rfl (by kernel_rfl) (by kernel_rfl) (by kernel_rfl) (fun _ _ _ h => h) ⟨Or.inl ⟨by kernel_rfl, ?_⟩, fun _ => by kernel_rfl⟩ ?_
      rotate_left
      · (intro w; go_simp); try rfl
      refine wpAnyIn_take (i := 4) (v := ?_) hro rfl (by kernel_rfl) (by kernel_rfl) (by kernel_rfl) (fun _ _ _ h => h) ⟨Or.inl ⟨by kernel_rfl, ?_⟩, fun _ => by kernel_rfl⟩ ?_
      rotate_left
      · (intro w; go_simp); try rfl
      refine wpAnyIn_take (i := 5) (v := ?_) hro rfl (by kernel_rfl) (by kernel_rfl) (by kernel_rfl) (fun _ _ _ h => h) ⟨Or.inl ⟨by kernel_rfl, ?_⟩, fun _ => by kernel_rfl⟩ ?_
      rotate_left
      · (intro w; go_simp); try rfl
      refine wpAnyIn_ready (rs := [3]) (by kernel_rfl) (by simp) ?_
      refine AllReadyIn.cons rfl (fun K hK => ?_) ?_
      rotate_left
      · exact AllReadyIn.nil
      go_simp
      refine hK _ _ ?_; clear hK K
      refine wpAnyIn_ready (rs := [6]) (by kernel_rfl) (by simp) ?_
      refine AllReadyIn.cons rfl (fun K hK => ?_) ?_
      rotate_left
      · exact AllReadyIn.nil
      go_simp
      (with_reducible refine ih1.mono ?_)
      clear ih1
      rintro e W1 (⟨rfl, c0', ⟨c1', c1b', c1c'⟩, hy⟩ | ⟨rfl, q, hq, hx1⟩)
      rotate_left
      · refine hK _ _ ?_; clear hK K
        refine wpAnyIn_take (i := 7) (v := ?_) hro rfl (by kernel_rfl) (by kernel_rfl) (by kernel_rfl) (fun _ _ _ h => h) ⟨Or.inl ⟨by kernel_rfl, ?_⟩, fun _ => by kernel_rfl⟩ ?_
        rotate_left
        · (intro w; go_simp); try rfl
        refine wpAnyIn_take (i := 8) (v := undef) hro rfl (by kernel_rfl) (by kernel_rfl) (by kernel_rfl) (fun _ _ _ h => h) ⟨Or.inr ⟨by kernel_rfl, rfl⟩, fun _ => by kernel_rfl⟩ ?_
        refine wpAnyIn_take (i := 9) (v := undef) hro rfl (by kernel_rfl) (by kernel_rfl) (by kernel_rfl) (fun _ _ _ h => h) ⟨Or.inr ⟨by kernel_rfl, rfl⟩, fun _ => by kernel_rfl⟩ ?_
        refine wpAnyIn_take (i := 10) (v := undef) hro rfl (by kernel_rfl) (by kernel_rfl) (by kernel_rfl) (fun _ _ _ h => h) ⟨Or.inr ⟨by kernel_rfl, rfl⟩, fun _ => by kernel_rfl⟩ ?_
        refine wpAnyIn_take (i := 11) (v := undef) hro rfl (by kernel_rfl) (by kernel_rfl) (by kernel_rfl) (fun _ _ _ h => h) ⟨Or.inr ⟨by kernel_rfl, rfl⟩, fun _ => by kernel_rfl⟩ ?_
        refine wpAnyIn_take (i := 12) (v := undef) hro rfl (by kernel_rfl) (by kernel_rfl) (by kernel_rfl) (fun _ _ _ h => h) ⟨Or.inr ⟨by kernel_rfl, rfl⟩, fun _ => by kernel_rfl⟩ ?_
        refine wpAnyIn_take (i := 13) (v := undef) hro rfl (by kernel_rfl) (by kernel_rfl) (by kernel_rfl) (fun _ _ _ h => h) ⟨Or.inr ⟨by kernel_rfl, rfl⟩, fun _ => by kernel_rfl⟩ ?_
        refine wpAnyIn_take (i := 14) (v := undef) hro rfl (by kernel_rfl) (by kernel_rfl) (by kernel_rfl) (fun _ _ _ h => h) ⟨Or.inr ⟨by kernel_rfl, rfl⟩, fun _ => by kernel_rfl⟩ ?_
        refine wpAnyIn_take (i := 15) (v := undef) hro rfl (by kernel_rfl) (by kernel_rfl) (by kernel_rfl) (fun _ _ _ h => h) ⟨Or.inr ⟨by kernel_rfl, rfl⟩, fun _ => by kernel_rfl⟩ ?_
        refine wpAnyIn_take (i := 16) (v := undef) hro rfl (by kernel_rfl) (by kernel_rfl) (by kernel_rfl) (fun _ _ _ h => h) ⟨Or.inr ⟨by kernel_rfl, rfl⟩, fun _ => by kernel_rfl⟩ ?_
        refine wpAnyIn_take (i := 17) (v := undef) hro rfl (by kernel_rfl) (by kernel_rfl) (by kernel_rfl) (fun _ _ _ h => h) ⟨Or.inr ⟨by kernel_rfl, rfl⟩, fun _ => by kernel_rfl⟩ ?_
        refine wpAnyIn_take (i := 18) (v := ?_) hro rfl (by kernel_rfl) (by kernel_rfl) (by kernel_rfl) (fun _ _ _ h => h) ⟨Or.inl ⟨by kernel_rfl, ?_⟩, fun _ => by kernel_rfl⟩ ?_
        rotate_left
        · (intro w; go_simp); try rfl
        refine wpAnyIn_take (i := 19) (v := ?_) hro rfl (by kernel_rfl) (by kernel_rfl) (by kernel_rfl) (fun _ _ _ h => h) ⟨Or.inl ⟨by kernel_rfl, ?_⟩, fun _ => by kernel_rfl⟩ ?_
        rotate_left
        · (intro w; go_simp); try rfl
        refine wpAnyIn_take (i := 20) (v := undef) hro rfl (by kernel_rfl) (by kernel_rfl) (by kernel_rfl) (fun _ _ _ h => h) ⟨Or.inr ⟨by kernel_rfl, rfl⟩, fun _ => by kernel_rfl⟩ ?_
        refine wpAnyIn_take (i := 21) (v := undef) hro rfl (by kernel_rfl) (by kernel_rfl) (by kernel_rfl) (fun _ _ _ h => h) ⟨Or.inr ⟨by kernel_rfl, rfl⟩, fun _ => by kernel_rfl⟩ ?_
        refine wpAnyIn_take (i := 22) (v := undef) hro rfl (by kernel_rfl) (by kernel_rfl) (by kernel_rfl) (fun _ _ _ h => h) ⟨Or.inr ⟨by kernel_rfl, rfl⟩, fun _ => by kernel_rfl⟩ ?_
        refine wpAnyIn_take (i := 23) (v := undef) hro rfl (by kernel_rfl) (by kernel_rfl) (by kernel_rfl) (fun _ _ _ h => h) ⟨Or.inr ⟨by kernel_rfl, rfl⟩, fun _ => by kernel_rfl⟩ ?_
        refine wpAnyIn_take (i := 24) (v := undef) hro rfl (by kernel_rfl) (by kernel_rfl) (by kernel_rfl) (fun _ _ _ h => h) ⟨Or.inr ⟨by kernel_rfl, rfl⟩, fun _ => by kernel_rfl⟩ ?_
        refine wpAnyIn_take (i := 25) (v := undef) hro rfl (by kernel_rfl) (by kernel_rfl) (by kernel_rfl) (fun _ _ _ h => h) ⟨Or.inr ⟨by kernel_rfl, rfl⟩, fun _ => by kernel_rfl⟩ ?_
        refine wpAnyIn_ready (rs := [26]) (by kernel_rfl) (by simp) ?_
        refine AllReadyIn.cons rfl (fun K hK => ?_) ?_
        rotate_left
        · exact AllReadyIn.nil
        go_simp
        refine hK _ _ ?_; clear hK K
        refine wpAnyIn_take (i := 27) (v := ?_) hro rfl (by kernel_rfl) (by kernel_rfl) (by kernel_rfl) (fun _ _ _ h => h) ⟨Or.inl ⟨by kernel_rfl, ?_⟩, fun _ => by kernel_rfl⟩ ?_
        rotate_left
        · (intro w; go_simp); try rfl
        refine wpAnyIn_take (i := 28) (v := ?_) hro rfl (by kernel_rfl) (by kernel_rfl) (by kernel_rfl) (fun _ _ _ h => h) ⟨Or.inl ⟨by kernel_rfl, ?_⟩, fun _ => by kernel_rfl⟩ ?_
        rotate_left
        · (intro w; go_simp); try rfl
        refine wpAnyIn_done (by kernel_rfl) ?_ _
        gi_wp2
        go_ret
        exact .inr ⟨rfl, q, List.IsPrefix.trans hq (List.prefix_append _ _), hx1⟩
      refine hK _ _ ?_; clear hK K
      refine wpAnyIn_take (i := 7) (v := ?_) hro rfl (by kernel_rfl) (by kernel_rfl) (by kernel_rfl) (fun _ _ _ h => h) ⟨Or.inl ⟨by kernel_rfl, ?_⟩, fun _ => by kernel_rfl⟩ ?_
      rotate_left
      · (intro w; go_simp); try rfl
      refine wpAnyIn_take (i := 8) (v := ?_) hro rfl (by kernel_rfl) (by kernel_rfl) (by kernel_rfl) (fun _ _ _ h => h) ⟨Or.inl ⟨by kernel_rfl, ?_⟩, fun _ => by kernel_rfl⟩ ?_
      rotate_left
      · (intro w; go_simp); try rfl
      refine wpAnyIn_take (i := 9) (v := ?_) hro rfl (by kernel_rfl) (by kernel_rfl) (by kernel_rfl) (fun _ _ _ h => h) ⟨Or.inl ⟨by kernel_rfl, ?_⟩, fun _ => by kernel_rfl⟩ ?_
      rotate_left
      · (intro w; go_simp); try rfl
      refine wpAnyIn_take (i := 10) (v := ?_) hro rfl (by kernel_rfl) (by kernel_rfl) (by kernel_rfl) (fun _ _ _ h => h) ⟨Or.inl ⟨by kernel_rfl, ?_⟩, fun _ => by kernel_rfl⟩ ?_
      rotate_left
      · (intro w; go_simp); try rfl
      refine wpAnyIn_take (i := 11) (v := ?_) hro rfl (by kernel_rfl) (by kernel_rfl) (by kernel_rfl) (fun _ _ _ h => h) ⟨Or.inl ⟨by kernel_rfl, ?_⟩, fun _ => by kernel_rfl⟩ ?_
      rotate_left
      · (intro w; go_simp); try rfl
      refine wpAnyIn_take (i := 13) (v := ?_) hro rfl (by kernel_rfl) (by kernel_rfl) (by kernel_rfl) (fun _ _ _ h => h) ⟨Or.inl ⟨by kernel_rfl, ?_⟩, fun _ => by kernel_rfl⟩ ?_
      rotate_left
      · (intro w; go_simp); try rfl
      refine wpAnyIn_take (i := 14) (v := ?_) hro rfl (by kernel_rfl) (by kernel_rfl) (by kernel_rfl) (fun _ _ _ h => h) ⟨Or.inl ⟨by kernel_rfl, ?_⟩, fun _ => by kernel_rfl⟩ ?_
      rotate_left
      · (intro w; go_simp); try rfl
      refine wpAnyIn_take (i := 15) (v := ?_) hro rfl (by kernel_rfl) (by kernel_rfl) (by kernel_rfl) (fun _ _ _ h => h) ⟨Or.inl ⟨by kernel_rfl, ?_⟩, fun _ => by kernel_rfl⟩ ?_
      rotate_left
      · (intro w; go_simp); try rfl
      obtain ⟨fn, tmps, assign, body, hy, hR⟩ := hy
      refine wpAnyIn_ready (rs := [12, 16]) (by kernel_rfl) (by simp) ?_
      refine AllReadyIn.cons rfl (fun K hK => ?_) ?_
      rotate_left
      rotate_left
      have hvis12 : True := trivial
      focus
        go_simp
        refine hK _ _ ?_; clear hK K
        refine wpAnyIn_ready (rs := [16]) (by kernel_rfl) (by simp) ?_
        refine AllReadyIn.cons rfl (fun K hK => ?_) ?_
        rotate_left
        · exact AllReadyIn.nil
        go_simp
        refine hK _ _ ?_; clear hK K
        refine wpAnyIn_ready (rs := [17]) (by kernel_rfl) (by simp) ?_
        refine AllReadyIn.cons rfl (fun K hK => ?_) ?_
        rotate_left
        · exact AllReadyIn.nil
        go_simp
        (with_reducible refine RoundIn.mono hR ?_)
        clear hR
        rintro e W2 (⟨rfl, hJ2, hb2, c3', hr2⟩ | ⟨rfl, hx2⟩)
        rotate_left
        · refine hK _ _ ?_; clear hK K
          refine wpAnyIn_take (i := 18) (v := ?_) hro rfl (by kernel_rfl) (by kernel_rfl) (by kernel_rfl) (fun _ _ _ h => h) ⟨Or.inl ⟨by kernel_rfl, ?_⟩, fun _ => by kernel_rfl⟩ ?_
          rotate_left
          · (intro w; go_simp); try rfl
          refine wpAnyIn_take (i := 19) (v := ?_) hro rfl (by kernel_rfl) (by kernel_rfl) (by kernel_rfl) (fun _ _ _ h => h) ⟨Or.inl ⟨by kernel_rfl, ?_⟩, fun _ => by kernel_rfl⟩ ?_
          rotate_left
          · (intro w; go_simp); try rfl
          refine wpAnyIn_take (i := 20) (v := undef) hro rfl (by kernel_rfl) (by kernel_rfl) (by kernel_rfl) (fun _ _ _ h => h) ⟨Or.inr ⟨by kernel_rfl, rfl⟩, fun _ => by kernel_rfl⟩ ?_
          refine wpAnyIn_take (i := 21) (v := undef) hro rfl (by kernel_rfl) (by kernel_rfl) (by kernel_rfl) (fun _ _ _ h => h) ⟨Or.inr ⟨by kernel_rfl, rfl⟩, fun _ => by kernel_rfl⟩ ?_
          refine wpAnyIn_take (i := 22) (v := undef) hro rfl (by kernel_rfl) (by kernel_rfl) (by kernel_rfl) (fun _ _ _ h => h) ⟨Or.inr ⟨by kernel_rfl, rfl⟩, fun _ => by kernel_rfl⟩ ?_
          refine wpAnyIn_take (i := 23) (v := undef) hro rfl (by kernel_rfl) (by kernel_rfl) (by kernel_rfl) (fun _ _ _ h => h) ⟨Or.inr ⟨by kernel_rfl, rfl⟩, fun _ => by kernel_rfl⟩ ?_
          refine wpAnyIn_take (i := 24) (v := undef) hro rfl (by kernel_rfl) (by kernel_rfl) (by kernel_rfl) (fun _ _ _ h => h) ⟨Or.inr ⟨by kernel_rfl, rfl⟩, fun _ => by kernel_rfl⟩ ?_
          refine wpAnyIn_take (i := 25) (v := undef) hro rfl (by kernel_rfl) (by kernel_rfl) (by kernel_rfl) (fun _ _ _ h => h) ⟨Or.inr ⟨by kernel_rfl, rfl⟩, fun _ => by kernel_rfl⟩ ?_
          refine wpAnyIn_ready (rs := [26]) (by kernel_rfl) (by simp) ?_
          refine AllReadyIn.cons rfl (fun K hK => ?_) ?_
          rotate_left
          · exact AllReadyIn.nil
          go_simp
          refine hK _ _ ?_; clear hK K
          refine wpAnyIn_take (i := 27) (v := ?_) hro rfl (by kernel_rfl) (by kernel_rfl) (by kernel_rfl) (fun _ _ _ h => h) ⟨Or.inl ⟨by kernel_rfl, ?_⟩, fun _ => by kernel_rfl⟩ ?_
          rotate_left
          · (intro w; go_simp); try rfl
          refine wpAnyIn_take (i := 28) (v := ?_) hro rfl (by kernel_rfl) (by kernel_rfl) (by kernel_rfl) (fun _ _ _ h => h) ⟨Or.inl ⟨by kernel_rfl, ?_⟩, fun _ => by kernel_rfl⟩ ?_
          rotate_left
          · (intro w; go_simp); try rfl
          refine wpAnyIn_done (by kernel_rfl) ?_ _
          gi_wp2
          go_ret
          exact .inr ⟨rfl, overL key tl ++ [(k, v)], ⟨overL key tr, by simp⟩, by simpa using hx2⟩
        refine hK _ _ ?_; clear hK K
        refine wpAnyIn_take (i := 18) (v := ?_) hro rfl (by kernel_rfl) (by kernel_rfl) (by kernel_rfl) (fun _ _ _ h => h) ⟨Or.inl ⟨by kernel_rfl, ?_⟩, fun _ => by kernel_rfl⟩ ?_
        rotate_left
        · (intro w; go_simp); try rfl
        refine wpAnyIn_take (i := 19) (v := ?_) hro rfl (by kernel_rfl) (by kernel_rfl) (by kernel_rfl) (fun _ _ _ h => h) ⟨Or.inl ⟨by kernel_rfl, ?_⟩, fun _ => by kernel_rfl⟩ ?_
        rotate_left
        · (intro w; go_simp); try rfl
        refine wpAnyIn_take (i := 20) (v := ?_) hro rfl (by kernel_rfl) (by kernel_rfl) (by kernel_rfl) (fun _ _ _ h => h) ⟨Or.inl ⟨by kernel_rfl, ?_⟩, fun _ => by kernel_rfl⟩ ?_
        rotate_left
        · (intro w; go_simp); try rfl
        refine wpAnyIn_take (i := 21) (v := ?_) hro rfl (by kernel_rfl) (by kernel_rfl) (by kernel_rfl) (fun _ _ _ h => h) ⟨Or.inl ⟨by kernel_rfl, ?_⟩, fun _ => by kernel_rfl⟩ ?_
        rotate_left
        · (intro w; go_simp); try rfl
        refine wpAnyIn_take (i := 22) (v := ?_) hro rfl (by kernel_rfl) (by kernel_rfl) (by kernel_rfl) (fun _ _ _ h => h) ⟨Or.inl ⟨by kernel_rfl, ?_⟩, fun _ => by kernel_rfl⟩ ?_
        rotate_left
        · (intro w; go_simp); try rfl
        refine wpAnyIn_take (i := 24) (v := ?_) hro rfl (by kernel_rfl) (by kernel_rfl) (by kernel_rfl) (fun _ _ _ h => h) ⟨Or.inl ⟨by kernel_rfl, ?_⟩, fun _ => by kernel_rfl⟩ ?_
        rotate_left
        · (intro w; go_simp); try rfl
        refine wpAnyIn_take (i := 25) (v := ?_) hro rfl (by kernel_rfl) (by kernel_rfl) (by kernel_rfl) (fun _ _ _ h => h) ⟨Or.inl ⟨by kernel_rfl, ?_⟩, fun _ => by kernel_rfl⟩ ?_
        rotate_left
        · (intro w; go_simp); try rfl
        refine wpAnyIn_ready (rs := [23]) (by kernel_rfl) (by simp) ?_
        refine AllReadyIn.cons rfl (fun K hK => ?_) ?_
        rotate_left
        · exact AllReadyIn.nil
        go_simp
        refine hK _ _ ?_; clear hK K
        refine wpAnyIn_ready (rs := [26]) (by kernel_rfl) (by simp) ?_
        refine AllReadyIn.cons rfl (fun K hK => ?_) ?_
        rotate_left
        · exact AllReadyIn.nil
        go_simp
        (with_reducible refine (ih3 _ hJ2 hr2).mono ?_)
        clear ih3
        rintro e W3 (⟨rfl, hJ3, hb3⟩ | ⟨rfl, q, hq, hx3⟩)
        · refine hK _ _ ?_; clear hK K
          refine wpAnyIn_take (i := 27) (v := ?_) hro rfl (by kernel_rfl) (by kernel_rfl) (by kernel_rfl) (fun _ _ _ h => h) ⟨Or.inl ⟨by kernel_rfl, ?_⟩, fun _ => by kernel_rfl⟩ ?_
          rotate_left
          · (intro w; go_simp); try rfl
          refine wpAnyIn_take (i := 28) (v := ?_) hro rfl (by kernel_rfl) (by kernel_rfl) (by kernel_rfl) (fun _ _ _ h => h) ⟨Or.inl ⟨by kernel_rfl, ?_⟩, fun _ => by kernel_rfl⟩ ?_
          rotate_left
          · (intro w; go_simp); try rfl
          refine wpAnyIn_done (by kernel_rfl) ?_ _
          gi_wp2
          go_ret
          exact .inl ⟨rfl, by simpa using hJ3, hb2.trans hb3⟩
        · refine hK _ _ ?_; clear hK K
          refine wpAnyIn_take (i := 27) (v := ?_) hro rfl (by kernel_rfl) (by kernel_rfl) (by kernel_rfl) (fun _ _ _ h => h) ⟨Or.inl ⟨by kernel_rfl, ?_⟩, fun _ => by kernel_rfl⟩ ?_
          rotate_left
          · (intro w; go_simp); try rfl
          refine wpAnyIn_take (i := 28) (v := ?_) hro rfl (by kernel_rfl) (by kernel_rfl) (by kernel_rfl) (fun _ _ _ h => h) ⟨Or.inl ⟨by kernel_rfl, ?_⟩, fun _ => by kernel_rfl⟩ ?_
          rotate_left
          · (intro w; go_simp); try rfl
          refine wpAnyIn_done (by kernel_rfl) ?_ _
          gi_wp2
          go_ret
          exact .inr ⟨rfl, overL key tl ++ (k, v) :: q, by simpa using hq, by simpa using hx3⟩
      refine AllReadyIn.cons rfl (fun K hK => ?_) ?_
      rotate_left
      · exact AllReadyIn.nil
      have hvis16 : True := trivial
      go_simp
      refine hK _ _ ?_; clear hK K
      refine wpAnyIn_ready (rs := [12]) (by kernel_rfl) (by simp) ?_
      refine AllReadyIn.cons rfl (fun K hK => ?_) ?_
      rotate_left
      · exact AllReadyIn.nil
      go_simp
      refine hK _ _ ?_; clear hK K
      refine wpAnyIn_ready (rs := [17]) (by kernel_rfl) (by simp) ?_
      refine AllReadyIn.cons rfl (fun K hK => ?_) ?_
      rotate_left
      · exact AllReadyIn.nil
      go_simp
      (with_reducible refine RoundIn.mono hR ?_)
      clear hR
      rintro e W2 (⟨rfl, hJ2, hb2, c3', hr2⟩ | ⟨rfl, hx2⟩)
      rotate_left
      · refine hK _ _ ?_; clear hK K
        refine wpAnyIn_take (i := 18) (v := ?_) hro rfl (by kernel_rfl) (by kernel_rfl) (by kernel_rfl) (fun _ _ _ h => h) ⟨Or.inl ⟨by kernel_rfl, ?_⟩, fun _ => by kernel_rfl⟩ ?_
        rotate_left
        · (intro w; go_simp); try rfl
        refine wpAnyIn_take (i := 19) (v := ?_) hro rfl (by kernel_rfl) (by kernel_rfl) (by kernel_rfl) (fun _ _ _ h => h) ⟨Or.inl ⟨by kernel_rfl, ?_⟩, fun _ => by kernel_rfl⟩ ?_
        rotate_left
        · (intro w; go_simp); try rfl
        refine wpAnyIn_take (i := 20) (v := undef) hro rfl (by kernel_rfl) (by kernel_rfl) (by kernel_rfl) (fun _ _ _ h => h) ⟨Or.inr ⟨by kernel_rfl, rfl⟩, fun _ => by kernel_rfl⟩ ?_
        refine wpAnyIn_take (i := 21) (v := undef) hro rfl (by kernel_rfl) (by kernel_rfl) (by kernel_rfl) (fun _ _ _ h => h) ⟨Or.inr ⟨by kernel_rfl, rfl⟩, fun _ => by kernel_rfl⟩ ?_
        refine wpAnyIn_take (i := 22) (v := undef) hro rfl (by kernel_rfl) (by kernel_rfl) (by kernel_rfl) (fun _ _ _ h => h) ⟨Or.inr ⟨by kernel_rfl, rfl⟩, fun _ => by kernel_rfl⟩ ?_
        refine wpAnyIn_take (i := 23) (v := undef) hro rfl (by kernel_rfl) (by kernel_rfl) (by kernel_rfl) (fun _ _ _ h => h) ⟨Or.inr ⟨by kernel_rfl, rfl⟩, fun _ => by kernel_rfl⟩ ?_
        refine wpAnyIn_take (i := 24) (v := undef) hro rfl (by kernel_rfl) (by kernel_rfl) (by kernel_rfl) (fun _ _ _ h => h) ⟨Or.inr ⟨by kernel_rfl, rfl⟩, fun _ => by kernel_rfl⟩ ?_
        refine wpAnyIn_take (i := 25) (v := undef) hro rfl (by kernel_rfl) (by kernel_rfl) (by kernel_rfl) (fun _ _ _ h => h) ⟨Or.inr ⟨by kernel_rfl, rfl⟩, fun _ => by kernel_rfl⟩ ?_
        refine wpAnyIn_ready (rs := [26]) (by kernel_rfl) (by simp) ?_
        refine AllReadyIn.cons rfl (fun K hK => ?_) ?_
        rotate_left
        · exact AllReadyIn.nil
        go_simp
        refine hK _ _ ?_; clear hK K
        refine wpAnyIn_take (i := 27) (v := ?_) hro rfl (by kernel_rfl) (by kernel_rfl) (by kernel_rfl) (fun _ _ _ h => h) ⟨Or.inl ⟨by kernel_rfl, ?_⟩, fun _ => by kernel_rfl⟩ ?_
        rotate_left
        · (intro w; go_simp); try rfl
        refine wpAnyIn_take (i := 28) (v := ?_) hro rfl (by kernel_rfl) (by kernel_rfl) (by kernel_rfl) (fun _ _ _ h => h) ⟨Or.inl ⟨by kernel_rfl, ?_⟩, fun _ => by kernel_rfl⟩ ?_
        rotate_left
        · (intro w; go_simp); try rfl
        refine wpAnyIn_done (by kernel_rfl) ?_ _
        gi_wp2
        go_ret
        exact .inr ⟨rfl, overL key tl ++ [(k, v)], ⟨overL key tr, by simp⟩, by simpa using hx2⟩
      refine hK _ _ ?_; clear hK K
      refine wpAnyIn_take (i := 18) (v := ?_) hro rfl (by kernel_rfl) (by kernel_rfl) (by kernel_rfl) (fun _ _ _ h => h) ⟨Or.inl ⟨by kernel_rfl, ?_⟩, fun _ => by kernel_rfl⟩ ?_
      rotate_left
      · (intro w; go_simp); try rfl
      refine wpAnyIn_take (i := 19) (v := ?_) hro rfl (by kernel_rfl) (by kernel_rfl) (by kernel_rfl) (fun _ _ _ h => h) ⟨Or.inl ⟨by kernel_rfl, ?_⟩, fun _ => by kernel_rfl⟩ ?_
      rotate_left
      · (intro w; go_simp); try rfl
      refine wpAnyIn_take (i := 20) (v := ?_) hro rfl (by kernel_rfl) (by kernel_rfl) (by kernel_rfl) (fun _ _ _ h => h) ⟨Or.inl ⟨by kernel_rfl, ?_⟩, fun _ => by kernel_rfl⟩ ?_
      rotate_left
      · (intro w; go_simp); try rfl
      refine wpAnyIn_take (i := 21) (v := ?_) hro rfl (by kernel_rfl) (by kernel_rfl) (by kernel_rfl) (fun _ _ _ h => h) ⟨Or.inl ⟨by kernel_rfl, ?_⟩, fun _ => by kernel_rfl⟩ ?_
      rotate_left
      · (intro w; go_simp); try rfl
      refine wpAnyIn_take (i := 22) (v := ?_) hro rfl (by kernel_rfl) (by kernel_rfl) (by kernel_rfl) (fun _ _ _ h => h) ⟨Or.inl ⟨by kernel_rfl, ?_⟩, fun _ => by kernel_rfl⟩ ?_
      rotate_left
      · (intro w; go_simp); try rfl
      refine wpAnyIn_take (i := 24) (v := ?_) hro rfl (by kernel_rfl) (by kernel_rfl) (by kernel_rfl) (fun _ _ _ h => h) ⟨Or.inl ⟨by kernel_rfl, ?_⟩, fun _ => by kernel_rfl⟩ ?_
      rotate_left
      · (intro w; go_simp); try rfl
      refine wpAnyIn_take (i := 25) (v := ?_) hro rfl (by kernel_rfl) (by kernel_rfl) (by kernel_rfl) (fun _ _ _ h => h) ⟨Or.inl ⟨by kernel_rfl, ?_⟩, fun _ => by kernel_rfl⟩ ?_
      rotate_left
      · (intro w; go_simp); try rfl
      refine wpAnyIn_ready (rs := [23]) (by kernel_rfl) (by simp) ?_
      refine AllReadyIn.cons rfl (fun K hK => ?_) ?_
      rotate_left
      · exact AllReadyIn.nil
      go_simp
      refine hK _ _ ?_; clear hK K
      refine wpAnyIn_ready (rs := [26]) (by kernel_rfl) (by simp) ?_
      refine AllReadyIn.cons rfl (fun K hK => ?_) ?_
      rotate_left
      · exact AllReadyIn.nil
      go_simp
      (with_reducible refine (ih3 _ hJ2 hr2).mono ?_)
      clear ih3
      rintro e W3 (⟨rfl, hJ3, hb3⟩ | ⟨rfl, q, hq, hx3⟩)
      · refine hK _ _ ?_; clear hK K
        refine wpAnyIn_take (i := 27) (v := ?_) hro rfl (by kernel_rfl) (by kernel_rfl) (by kernel_rfl) (fun _ _ _ h => h) ⟨Or.inl ⟨by kernel_rfl, ?_⟩, fun _ => by kernel_rfl⟩ ?_
        rotate_left
        · (intro w; go_simp); try rfl
        refine wpAnyIn_take (i := 28) (v := ?_) hro rfl (by kernel_rfl) (by kernel_rfl) (by kernel_rfl) (fun _ _ _ h => h) ⟨Or.inl ⟨by kernel_rfl, ?_⟩, fun _ => by kernel_rfl⟩ ?_
        rotate_left
        · (intro w; go_simp); try rfl
        refine wpAnyIn_done (by kernel_rfl) ?_ _
        gi_wp2
        go_ret
        exact .inl ⟨rfl, by simpa using hJ3, hb2.trans hb3⟩
      · refine hK _ _ ?_; clear hK K
        refine wpAnyIn_take (i := 27) (v := ?_) hro rfl (by kernel_rfl) (by kernel_rfl) (by kernel_rfl) (fun _ _ _ h => h) ⟨Or.inl ⟨by kernel_rfl, ?_⟩, fun _ => by kernel_rfl⟩ ?_
        rotate_left
        · (intro w; go_simp); try rfl
        refine wpAnyIn_take (i := 28) (v := ?_) hro rfl (by kernel_rfl) (by kernel_rfl) (by kernel_rfl) (fun _ _ _ h => h) ⟨Or.inl ⟨by kernel_rfl, ?_⟩, fun _ => by kernel_rfl⟩ ?_
        rotate_left
        · (intro w; go_simp); try rfl
        refine wpAnyIn_done (by kernel_rfl) ?_ _
        gi_wp2
        go_ret
        exact .inr ⟨rfl, overL key tl ++ (k, v) :: q, by simpa using hq, by simpa using hx3⟩

end Go.Proofs.Ytjgpoggbakanlaa
