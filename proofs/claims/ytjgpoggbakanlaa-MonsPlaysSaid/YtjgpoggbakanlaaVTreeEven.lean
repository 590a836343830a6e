/- The walk of 'even': balanced anew. -/
import Derived.Test.YtjgpoggbakanlaaVTreeWalk
namespace Go.Proofs.Ytjgpoggbakanlaa
open Go.RowKit
attribute [local irreducible] Ext

theorem quiet_of_eq {P : Program} {f : FuncId} {args : Array Value} {w : World} {n : Nat} {v : Value}
    (h : Calls P f args (w.drewN n) fun e w' => e = .returned v ∧ w.drewN n = w') : Calls P f args (w.drewN n) fun e w'' => e = .returned v ∧ ∃ m, w'' = w.drewN m :=
  h.mono fun _ _ ⟨he, hm⟩ => ⟨he, n, hm.symm⟩

/-- A node in a world: where it lies, what it has. -/
def IsNode (w : World) (b : Nat) (k : Int) (v : (Int × Int × ByteArray)) : Prop := ∃ pl pr h n, w.heap[b]? = some (.cells (nodeCells k v pl pr h n) 104 (0, 0))

theorem IsNode.ext {w w' : World} (h : Ext w w') {b : Nat} {k : Int} {v : (Int × Int × ByteArray)} (hn : IsNode w b k v) : IsNode w' b k v := by
  obtain ⟨pl, pr, a, n, hb⟩ := hn
  exact ⟨pl, pr, a, n, h.keep hb⟩

theorem with_node {k : Int} {v : (Int × Int × ByteArray)} {n0 : Nat} {l r : Tr (Int × Int × ByteArray)} {pl pr : Option Addr} {w : World} (hn : IsNode w n0 k v) (hl : IsTree w pl l) (hr : IsTree w pr r) (hb : l.many + r.many ≤ 1000000000) :
    Calls Try.prog 64 #[.pointer (some ⟨n0, 0, none⟩), .pointer pl, .pointer pr] w (Makes (.node l k v r) w) := by
  obtain ⟨pl0, pr0, h0, m0, hb0⟩ := hn
  exact with_any k v n0 pl0 pr0 h0 m0 l r pl pr w hb0 hl hr hb

set_option maxHeartbeats 4000000 in
theorem even_left {k : Int} {v : (Int × Int × ByteArray)} {n0 : Nat} {lk : Int} {lv : (Int × Int × ByteArray)} {ll lr r : Tr (Int × Int × ByteArray)} {pl pr : Option Addr} {w : World} (hn : IsNode w n0 k v) (hl : IsTree w pl (.node ll lk lv lr)) (hr : IsTree w pr r)
    (hb : (Tr.node ll lk lv lr).many + r.many ≤ 1000000000) (hd : (Tr.node ll lk lv lr).high - r.high = 2) (hs : ¬ ll.high < lr.high) :
    Calls Try.prog 63 #[.pointer (some ⟨n0, 0, none⟩), .pointer pl, .pointer pr] w (Makes (.node ll lk lv (.node lr k v r)) w) := by
  have hhl := high_any _ pl w hl
  have hhr := high_any _ pr w hr
  obtain ⟨lb, px, py, rfl, hlb, hx, hy⟩ := hl
  have hc := node_cells hlb
  have hc2 := fun w' h => (hc w' h).2.2.1
  have hc3 := fun w' h => (hc w' h).2.2.2.1
  have hE := Ext.refl w
  have c2 := hc2 w hE
  have c3 := hc3 w hE
  have h1 : ∀ w', Ext w w' → Calls Try.prog 70 #[.pointer px] w' fun e w'' => e = .returned (.int .i64 ll.high) ∧ w' = w'' := fun w' h => high_any _ px w' (hx.ext h)
  have h2 : ∀ w', Ext w w' → Calls Try.prog 70 #[.pointer py] w' fun e w'' => e = .returned (.int .i64 lr.high) ∧ w' = w'' := fun w' h => high_any _ py w' (hy.ext h)
  have hm0 := ll.many_nonneg
  have hm2 := lr.many_nonneg
  have hm3 := r.many_nonneg
  have hm4 := (Tr.node ll lk lv lr).high_le_many
  have hm5 := (Tr.node ll lk lv lr).high_nonneg
  have hm6 := r.high_nonneg
  have hm7 := r.high_le_many
  have hmm : (Tr.node ll lk lv lr).many = 1 + ll.many + lr.many := rfl
  have hw1 : ∀ w', Ext w w' → Calls Try.prog 64 #[.pointer (some ⟨n0, 0, none⟩), .pointer py, .pointer pr] w' (Makes (.node lr k v r) w') := fun w' h => with_node (hn.ext h) (hy.ext h) (hr.ext h) (by omega)
  have hw2 : ∀ w' p1, Ext w w' → IsTree w' p1 (.node lr k v r) → Calls Try.prog 64 #[.pointer (some ⟨lb, 0, none⟩), .pointer px, .pointer p1] w' (Makes (.node ll lk lv (.node lr k v r)) w') := fun w' p1 h ht => with_node (IsNode.ext h ⟨_, _, _, _, hlb⟩) (hx.ext h) ht (by simp only [Tr.many]; omega)
  have hd' : (((Tr.node ll lk lv lr).high - r.high) == 2) = true := by simpa using hd
  have hs' : decide (ll.high < lr.high) = false := decide_eq_false hs
  have e1 : IntKind.i64.wrap ((Tr.node ll lk lv lr).high - r.high) = ((Tr.node ll lk lv lr).high - r.high) := IntWalk.i64_in _ (by omega)
  have HD := Lib.hid hd
  generalize (Tr.node ll lk lv lr).high = H at *
  clear hd hs hmm hc hlb hn hb hm0 hm2 hx hy hr
  go_enter Try.func63, Try.ntmps63
  go_wp2_with (first
    | (go_at_call 70; (with_reducible refine hhl.mono ?_); rintro e w' ⟨rfl, rfl⟩)
    | (go_at_call 70; (with_reducible refine hhr.mono ?_); rintro e w' ⟨rfl, rfl⟩))
  go_quiet ((first
    | (go_at_call 70; (with_reducible refine quiet_of_eq (h1 _ ?_)); exact hE.drewN _)
    | (go_at_call 70; (with_reducible refine quiet_of_eq (h2 _ ?_)); exact hE.drewN _)))
  go_wp2_with fail
  clear h1 h2 hhl hhr
  go_region_held3 (fun w' => Ext w w') (first | assumption | (repeat (first | assumption | apply Ext.drew | apply Ext.drewN)))
    (first
      | (go_at_call 64; (with_reducible refine (hw1 _ ?_).mono ?_); assumption; rintro e w1 ⟨p1, rfl, ht1, hE1⟩; have hW1 : Ext w w1 := Ext.trans (by assumption) hE1)
      | (go_at_call 64; (with_reducible refine (hw2 _ _ ?_ ?_).mono ?_); assumption; assumption; rintro e w2 ⟨p2, rfl, ht2, hE2⟩; have hW2 : Ext w w2 := Ext.trans (by assumption) hE2))
  go_wp2_with fail
  go_ret
  exact ⟨_, rfl, ht2, hW2⟩

set_option maxHeartbeats 4000000 in
theorem even_left2 {k : Int} {v : (Int × Int × ByteArray)} {n0 : Nat} {lk : Int} {lv : (Int × Int × ByteArray)} {ll ya yb r : Tr (Int × Int × ByteArray)} {yk : Int} {yv : (Int × Int × ByteArray)} {pl pr : Option Addr} {w : World} (hn : IsNode w n0 k v) (hl : IsTree w pl (.node ll lk lv (.node ya yk yv yb))) (hr : IsTree w pr r)
    (hb : (Tr.node ll lk lv (Tr.node ya yk yv yb)).many + r.many ≤ 1000000000) (hd : (Tr.node ll lk lv (Tr.node ya yk yv yb)).high - r.high = 2) (hs : ll.high < (Tr.node ya yk yv yb).high) :
    Calls Try.prog 63 #[.pointer (some ⟨n0, 0, none⟩), .pointer pl, .pointer pr] w (Makes (.node (.node ll lk lv ya) yk yv (.node yb k v r)) w) := by
  have hhl := high_any _ pl w hl
  have hhr := high_any _ pr w hr
  obtain ⟨lb, px, py, rfl, hlb, hx, hy⟩ := hl
  have hc := node_cells hlb
  have hc2 := fun w' h => (hc w' h).2.2.1
  have hc3 := fun w' h => (hc w' h).2.2.2.1
  have hE := Ext.refl w
  have c2 := hc2 w hE
  have c3 := hc3 w hE
  have h1 : ∀ w', Ext w w' → Calls Try.prog 70 #[.pointer px] w' fun e w'' => e = .returned (.int .i64 ll.high) ∧ w' = w'' := fun w' h => high_any _ px w' (hx.ext h)
  have h2 : ∀ w', Ext w w' → Calls Try.prog 70 #[.pointer py] w' fun e w'' => e = .returned (.int .i64 (Tr.node ya yk yv yb).high) ∧ w' = w'' := fun w' h => high_any _ py w' (hy.ext h)
  have hm0 := ll.many_nonneg
  have hm2 := (Tr.node ya yk yv yb).many_nonneg
  have hm3 := r.many_nonneg
  have hm4 := (Tr.node ll lk lv (Tr.node ya yk yv yb)).high_le_many
  have hm5 := (Tr.node ll lk lv (Tr.node ya yk yv yb)).high_nonneg
  have hm6 := r.high_nonneg
  have hm7 := r.high_le_many
  have hmm : (Tr.node ll lk lv (Tr.node ya yk yv yb)).many = 1 + ll.many + (Tr.node ya yk yv yb).many := rfl
  have hym : (Tr.node ya yk yv yb).many = 1 + ya.many + yb.many := rfl
  have hma := ya.many_nonneg
  have hmb := yb.many_nonneg
  obtain ⟨kb, pa, pb, rfl, hkb, ha, hb'⟩ := hy
  have hk := node_cells hkb
  have hk2 := fun w' h => (hk w' h).2.2.1
  have hk3 := fun w' h => (hk w' h).2.2.2.1
  have hw1 : ∀ w', Ext w w' → Calls Try.prog 64 #[.pointer (some ⟨lb, 0, none⟩), .pointer px, .pointer pa] w' (Makes (.node ll lk lv ya) w') := fun w' h => with_node (IsNode.ext h ⟨_, _, _, _, hlb⟩) (hx.ext h) (ha.ext h) (by omega)
  have hw2 : ∀ w', Ext w w' → Calls Try.prog 64 #[.pointer (some ⟨n0, 0, none⟩), .pointer pb, .pointer pr] w' (Makes (.node yb k v r) w') := fun w' h => with_node (hn.ext h) (hb'.ext h) (hr.ext h) (by omega)
  have hw3 : ∀ w' p1 p2, Ext w w' → IsTree w' p1 (.node ll lk lv ya) → IsTree w' p2 (.node yb k v r) → Calls Try.prog 64 #[.pointer (some ⟨kb, 0, none⟩), .pointer p1, .pointer p2] w' (Makes (.node (.node ll lk lv ya) yk yv (.node yb k v r)) w') := fun w' p1 p2 h t1 t2 => with_node (IsNode.ext h ⟨_, _, _, _, hkb⟩) t1 t2 (by simp only [Tr.many]; omega)
  have hd' : (((Tr.node ll lk lv (Tr.node ya yk yv yb)).high - r.high) == 2) = true := by simpa using hd
  have hs' : decide (ll.high < (Tr.node ya yk yv yb).high) = true := decide_eq_true hs
  have e1 : IntKind.i64.wrap ((Tr.node ll lk lv (Tr.node ya yk yv yb)).high - r.high) = ((Tr.node ll lk lv (Tr.node ya yk yv yb)).high - r.high) := IntWalk.i64_in _ (by omega)
  have HD := Lib.hid hd
  generalize (Tr.node ll lk lv (Tr.node ya yk yv yb)).high = H at *
  generalize (Tr.node ya yk yv yb).high = Hy at *
  clear hd hs hmm hym hma hmb hc hk hlb hkb hn hb hm0 hm2 hx ha hb' hr
  go_enter Try.func63, Try.ntmps63
  go_wp2_with (first
    | (go_at_call 70; (with_reducible refine hhl.mono ?_); rintro e w' ⟨rfl, rfl⟩)
    | (go_at_call 70; (with_reducible refine hhr.mono ?_); rintro e w' ⟨rfl, rfl⟩))
  go_quiet ((first
    | (go_at_call 70; (with_reducible refine quiet_of_eq (h1 _ ?_)); exact hE.drewN _)
    | (go_at_call 70; (with_reducible refine quiet_of_eq (h2 _ ?_)); exact hE.drewN _)))
  go_wp2_with fail
  clear h1 h2 hhl hhr
  go_region_held3 (fun w' => Ext w w') (first | assumption | (repeat (first | assumption | apply Ext.drew | apply Ext.drewN)))
    (first
      | (go_at_call 64; (with_reducible refine (hw1 _ ?_).mono ?_); assumption; rintro e w1 ⟨p1, rfl, ht1, hE1⟩; have hW1 : Ext w w1 := Ext.trans (by assumption) hE1)
      | (go_at_call 64; (with_reducible refine (hw2 _ ?_).mono ?_); assumption; rintro e w2 ⟨p2, rfl, ht2, hE2⟩; have hW2 : Ext w w2 := Ext.trans (by assumption) hE2; have ht1' := ht1.ext hE2)
      | (go_at_call 64; (with_reducible refine (hw3 _ _ _ ?_ ?_ ?_).mono ?_); assumption; assumption; assumption; rintro e w3 ⟨p3, rfl, ht3, hE3⟩; have hW3 : Ext w w3 := Ext.trans (by assumption) hE3))
  go_wp2_with fail
  go_ret
  exact ⟨_, rfl, ht3, hW3⟩

set_option maxHeartbeats 4000000 in
theorem even_right {k : Int} {v : (Int × Int × ByteArray)} {n0 : Nat} {rk : Int} {rv : (Int × Int × ByteArray)} {l rl rr : Tr (Int × Int × ByteArray)} {pl pr : Option Addr} {w : World} (hn : IsNode w n0 k v) (hl : IsTree w pl l) (hr : IsTree w pr (.node rl rk rv rr))
    (hb : (Tr.node rl rk rv rr).many + l.many ≤ 1000000000) (hd : l.high - (Tr.node rl rk rv rr).high = -2) (hs : ¬ rr.high < rl.high) :
    Calls Try.prog 63 #[.pointer (some ⟨n0, 0, none⟩), .pointer pl, .pointer pr] w (Makes (.node (.node l k v rl) rk rv rr) w) := by
  have hhl := high_any _ pl w hl
  have hhr := high_any _ pr w hr
  obtain ⟨lb, py, px, rfl, hlb, hy, hx⟩ := hr
  have hc := node_cells hlb
  have hc2 := fun w' h => (hc w' h).2.2.1
  have hc3 := fun w' h => (hc w' h).2.2.2.1
  have hE := Ext.refl w
  have c2 := hc2 w hE
  have c3 := hc3 w hE
  have h1 : ∀ w', Ext w w' → Calls Try.prog 70 #[.pointer px] w' fun e w'' => e = .returned (.int .i64 rr.high) ∧ w' = w'' := fun w' h => high_any _ px w' (hx.ext h)
  have h2 : ∀ w', Ext w w' → Calls Try.prog 70 #[.pointer py] w' fun e w'' => e = .returned (.int .i64 rl.high) ∧ w' = w'' := fun w' h => high_any _ py w' (hy.ext h)
  have hm0 := rr.many_nonneg
  have hm2 := rl.many_nonneg
  have hm3 := l.many_nonneg
  have hm4 := (Tr.node rl rk rv rr).high_le_many
  have hm5 := (Tr.node rl rk rv rr).high_nonneg
  have hm6 := l.high_nonneg
  have hm7 := l.high_le_many
  have hmm : (Tr.node rl rk rv rr).many = 1 + rl.many + rr.many := rfl
  have hw1 : ∀ w', Ext w w' → Calls Try.prog 64 #[.pointer (some ⟨n0, 0, none⟩), .pointer pl, .pointer py] w' (Makes (.node l k v rl) w') := fun w' h => with_node (hn.ext h) (hl.ext h) (hy.ext h) (by omega)
  have hw2 : ∀ w' p1, Ext w w' → IsTree w' p1 (.node l k v rl) → Calls Try.prog 64 #[.pointer (some ⟨lb, 0, none⟩), .pointer p1, .pointer px] w' (Makes (.node (.node l k v rl) rk rv rr) w') := fun w' p1 h ht => with_node (IsNode.ext h ⟨_, _, _, _, hlb⟩) ht (hx.ext h) (by simp only [Tr.many]; omega)
  have hd' : ((l.high - (Tr.node rl rk rv rr).high) == (-2)) = true := by simpa using hd
  have hd2 : ((l.high - (Tr.node rl rk rv rr).high) == 2) = false := by simp; omega
  have hs' : decide (rr.high < rl.high) = false := decide_eq_false hs
  have e1 : IntKind.i64.wrap (l.high - (Tr.node rl rk rv rr).high) = (l.high - (Tr.node rl rk rv rr).high) := IntWalk.i64_in _ (by omega)
  have HD := Lib.hid hd
  generalize (Tr.node rl rk rv rr).high = H at *
  clear hd hs hmm hc hlb hn hb hm0 hm2 hx hy hl
  go_enter Try.func63, Try.ntmps63
  go_wp2_with (first
    | (go_at_call 70; (with_reducible refine hhl.mono ?_); rintro e w' ⟨rfl, rfl⟩)
    | (go_at_call 70; (with_reducible refine hhr.mono ?_); rintro e w' ⟨rfl, rfl⟩))
  go_quiet ((first
    | (go_at_call 70; (with_reducible refine quiet_of_eq (h1 _ ?_)); exact hE.drewN _)
    | (go_at_call 70; (with_reducible refine quiet_of_eq (h2 _ ?_)); exact hE.drewN _)))
  go_wp2_with fail
  clear h1 h2 hhl hhr
  go_region_held3 (fun w' => Ext w w') (first | assumption | (repeat (first | assumption | apply Ext.drew | apply Ext.drewN)))
    (first
      | (go_at_call 64; (with_reducible refine (hw1 _ ?_).mono ?_); assumption; rintro e w1 ⟨p1, rfl, ht1, hE1⟩; have hW1 : Ext w w1 := Ext.trans (by assumption) hE1)
      | (go_at_call 64; (with_reducible refine (hw2 _ _ ?_ ?_).mono ?_); assumption; assumption; rintro e w2 ⟨p2, rfl, ht2, hE2⟩; have hW2 : Ext w w2 := Ext.trans (by assumption) hE2))
  go_wp2_with fail
  go_ret
  exact ⟨_, rfl, ht2, hW2⟩

set_option maxHeartbeats 4000000 in
theorem even_right2 {k : Int} {v : (Int × Int × ByteArray)} {n0 : Nat} {rk : Int} {rv : (Int × Int × ByteArray)} {l ya yb rr : Tr (Int × Int × ByteArray)} {yk : Int} {yv : (Int × Int × ByteArray)} {pl pr : Option Addr} {w : World} (hn : IsNode w n0 k v) (hl : IsTree w pl l) (hr : IsTree w pr (.node (.node ya yk yv yb) rk rv rr))
    (hb : (Tr.node (Tr.node ya yk yv yb) rk rv rr).many + l.many ≤ 1000000000) (hd : l.high - (Tr.node (Tr.node ya yk yv yb) rk rv rr).high = -2) (hs : rr.high < (Tr.node ya yk yv yb).high) :
    Calls Try.prog 63 #[.pointer (some ⟨n0, 0, none⟩), .pointer pl, .pointer pr] w (Makes (.node (.node l k v ya) yk yv (.node yb rk rv rr)) w) := by
  have hhl := high_any _ pl w hl
  have hhr := high_any _ pr w hr
  obtain ⟨lb, py, px, rfl, hlb, hy, hx⟩ := hr
  have hc := node_cells hlb
  have hc2 := fun w' h => (hc w' h).2.2.1
  have hc3 := fun w' h => (hc w' h).2.2.2.1
  have hE := Ext.refl w
  have c2 := hc2 w hE
  have c3 := hc3 w hE
  have h1 : ∀ w', Ext w w' → Calls Try.prog 70 #[.pointer px] w' fun e w'' => e = .returned (.int .i64 rr.high) ∧ w' = w'' := fun w' h => high_any _ px w' (hx.ext h)
  have h2 : ∀ w', Ext w w' → Calls Try.prog 70 #[.pointer py] w' fun e w'' => e = .returned (.int .i64 (Tr.node ya yk yv yb).high) ∧ w' = w'' := fun w' h => high_any _ py w' (hy.ext h)
  have hm0 := rr.many_nonneg
  have hm2 := (Tr.node ya yk yv yb).many_nonneg
  have hm3 := l.many_nonneg
  have hm4 := (Tr.node (Tr.node ya yk yv yb) rk rv rr).high_le_many
  have hm5 := (Tr.node (Tr.node ya yk yv yb) rk rv rr).high_nonneg
  have hm6 := l.high_nonneg
  have hm7 := l.high_le_many
  have hmm : (Tr.node (Tr.node ya yk yv yb) rk rv rr).many = 1 + (Tr.node ya yk yv yb).many + rr.many := rfl
  have hym : (Tr.node ya yk yv yb).many = 1 + ya.many + yb.many := rfl
  have hma := ya.many_nonneg
  have hmb := yb.many_nonneg
  obtain ⟨kb, pa, pb, rfl, hkb, ha, hb'⟩ := hy
  have hk := node_cells hkb
  have hk2 := fun w' h => (hk w' h).2.2.1
  have hk3 := fun w' h => (hk w' h).2.2.2.1
  have hw1 : ∀ w', Ext w w' → Calls Try.prog 64 #[.pointer (some ⟨n0, 0, none⟩), .pointer pl, .pointer pa] w' (Makes (.node l k v ya) w') := fun w' h => with_node (hn.ext h) (hl.ext h) (ha.ext h) (by omega)
  have hw2 : ∀ w', Ext w w' → Calls Try.prog 64 #[.pointer (some ⟨lb, 0, none⟩), .pointer pb, .pointer px] w' (Makes (.node yb rk rv rr) w') := fun w' h => with_node (IsNode.ext h ⟨_, _, _, _, hlb⟩) (hb'.ext h) (hx.ext h) (by omega)
  have hw3 : ∀ w' p1 p2, Ext w w' → IsTree w' p1 (.node l k v ya) → IsTree w' p2 (.node yb rk rv rr) → Calls Try.prog 64 #[.pointer (some ⟨kb, 0, none⟩), .pointer p1, .pointer p2] w' (Makes (.node (.node l k v ya) yk yv (.node yb rk rv rr)) w') := fun w' p1 p2 h t1 t2 => with_node (IsNode.ext h ⟨_, _, _, _, hkb⟩) t1 t2 (by simp only [Tr.many]; omega)
  have hd' : ((l.high - (Tr.node (Tr.node ya yk yv yb) rk rv rr).high) == (-2)) = true := by simpa using hd
  have hd2 : ((l.high - (Tr.node (Tr.node ya yk yv yb) rk rv rr).high) == 2) = false := by simp; omega
  have hs' : decide (rr.high < (Tr.node ya yk yv yb).high) = true := decide_eq_true hs
  have e1 : IntKind.i64.wrap (l.high - (Tr.node (Tr.node ya yk yv yb) rk rv rr).high) = (l.high - (Tr.node (Tr.node ya yk yv yb) rk rv rr).high) := IntWalk.i64_in _ (by omega)
  have HD := Lib.hid hd
  generalize (Tr.node (Tr.node ya yk yv yb) rk rv rr).high = H at *
  generalize (Tr.node ya yk yv yb).high = Hy at *
  clear hd hs hmm hym hma hmb hc hk hlb hkb hn hb hm0 hm2 hx ha hb' hl
  go_enter Try.func63, Try.ntmps63
  go_wp2_with (first
    | (go_at_call 70; (with_reducible refine hhl.mono ?_); rintro e w' ⟨rfl, rfl⟩)
    | (go_at_call 70; (with_reducible refine hhr.mono ?_); rintro e w' ⟨rfl, rfl⟩))
  go_quiet ((first
    | (go_at_call 70; (with_reducible refine quiet_of_eq (h1 _ ?_)); exact hE.drewN _)
    | (go_at_call 70; (with_reducible refine quiet_of_eq (h2 _ ?_)); exact hE.drewN _)))
  go_wp2_with fail
  clear h1 h2 hhl hhr
  go_region_held3 (fun w' => Ext w w') (first | assumption | (repeat (first | assumption | apply Ext.drew | apply Ext.drewN)))
    (first
      | (go_at_call 64; (with_reducible refine (hw1 _ ?_).mono ?_); assumption; rintro e w1 ⟨p1, rfl, ht1, hE1⟩; have hW1 : Ext w w1 := Ext.trans (by assumption) hE1)
      | (go_at_call 64; (with_reducible refine (hw2 _ ?_).mono ?_); assumption; rintro e w2 ⟨p2, rfl, ht2, hE2⟩; have hW2 : Ext w w2 := Ext.trans (by assumption) hE2; have ht1' := ht1.ext hE2)
      | (go_at_call 64; (with_reducible refine (hw3 _ _ _ ?_ ?_ ?_).mono ?_); assumption; assumption; assumption; rintro e w3 ⟨p3, rfl, ht3, hE3⟩; have hW3 : Ext w w3 := Ext.trans (by assumption) hE3))
  go_wp2_with fail
  go_ret
  exact ⟨_, rfl, ht3, hW3⟩

set_option maxHeartbeats 4000000 in
theorem even_flat {k : Int} {v : (Int × Int × ByteArray)} {n0 : Nat} {l r : Tr (Int × Int × ByteArray)} {pl pr : Option Addr} {w : World} (hn : IsNode w n0 k v) (hl : IsTree w pl l) (hr : IsTree w pr r)
    (hb : l.many + r.many ≤ 1000000000) (h2 : ¬ l.high - r.high = 2) (h3 : ¬ l.high - r.high = -2) :
    Calls Try.prog 63 #[.pointer (some ⟨n0, 0, none⟩), .pointer pl, .pointer pr] w (Makes (.node l k v r) w) := by
  have hhl := high_any _ pl w hl
  have hhr := high_any _ pr w hr
  have hw := with_node hn hl hr hb
  have hm1 := l.many_nonneg
  have hm3 := r.many_nonneg
  have hm4 := l.high_le_many
  have hm5 := l.high_nonneg
  have hm6 := r.high_nonneg
  have hm7 := r.high_le_many
  have hd1 : ((l.high - r.high) == 2) = false := by simpa using h2
  have hd2 : ((l.high - r.high) == (-2)) = false := by simpa using h3
  clear h2 h3 hn hl hr
  go_enter Try.func63, Try.ntmps63
  go_wp2_with (first
    | (go_at_call 70; (with_reducible refine hhl.mono ?_); rintro e w' ⟨rfl, rfl⟩)
    | (go_at_call 70; (with_reducible refine hhr.mono ?_); rintro e w' ⟨rfl, rfl⟩)
    | (go_at_call 64; (with_reducible refine hw.mono ?_); rintro e w1 ⟨p1, rfl, ht1, hE1⟩))
  go_ret
  exact ⟨_, rfl, ht1, hE1⟩

/-- 'even' makes the tree that is balanced anew. -/
theorem even_any {k : Int} {v : (Int × Int × ByteArray)} {n0 : Nat} {l r : Tr (Int × Int × ByteArray)} {pl pr : Option Addr} {w : World} (hn : IsNode w n0 k v) (hl : IsTree w pl l) (hr : IsTree w pr r) (hb : l.many + r.many ≤ 1000000000) :
    Calls Try.prog 63 #[.pointer (some ⟨n0, 0, none⟩), .pointer pl, .pointer pr] w (Makes (.even k v l r) w) := by
  by_cases h2 : l.high - r.high = 2
  · unfold Tr.even
    rw [if_pos h2]
    cases l with
    | nil =>
      have := r.high_nonneg
      simp only [Tr.high] at h2
      omega
    | node ll lk lv lr =>
      simp only []
      by_cases hs : ll.high < lr.high
      · rw [if_pos hs]
        cases lr with
        | nil =>
          have := ll.high_nonneg
          simp only [Tr.high] at hs
          omega
        | node a b c d => exact even_left2 hn hl hr hb h2 hs
      · rw [if_neg hs]
        exact even_left hn hl hr hb h2 hs
  · by_cases h3 : l.high - r.high = -2
    · unfold Tr.even
      rw [if_neg h2, if_pos h3]
      cases r with
      | nil =>
        have := l.high_nonneg
        simp only [Tr.high] at h3
        omega
      | node rl rk rv rr =>
        simp only []
        by_cases hs : rr.high < rl.high
        · rw [if_pos hs]
          cases rl with
          | nil =>
            have := rr.high_nonneg
            simp only [Tr.high] at hs
            omega
          | node a b c d => exact even_right2 hn hl hr (by omega) h3 hs
        · rw [if_neg hs]
          exact even_right hn hl hr (by omega) h3 hs
    · have e : Tr.even k v l r = .node l k v r := by unfold Tr.even; rw [if_neg h2, if_neg h3]
      rw [e]
      exact even_flat hn hl hr hb h2 h3

end Go.Proofs.Ytjgpoggbakanlaa
