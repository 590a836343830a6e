/- TreeRows' walk. -/
import Derived.Test.YtpkapfhfnnfomaaTreeKnown
import Derived.Test.YtpkapfhfnnfomaaArgInt
import Derived.Test.YtpkapfhfnnfomaaRangeX
import Derived.Deep.DeepCutAuto
import Derived.Deep.CutRange
import Derived.Deep.CutBlock
namespace Go.Proofs.Ytpkapfhfnnfomaa
open Go.RowKit Go.Shelf
attribute [local irreducible] Ext
attribute [local go_sem] Oper.semAt_some

/-- Between two calls: the result's box, the tree. -/
structure RInv (w wr : World) (tb : Nat) (t : Tr Int) : Prop where
  tree : TreeAt wr tb t
  res : Boxed wr w.heap.size 4 (.bool false)
  below : Below w.heap.size w wr
  htb : w.heap.size < tb
  sorted : t.sorted
  bal : t.bal
  keys : ∀ x ∈ t.list, -9223372036854775808 ≤ x.1

theorem RInv.drewN {w wr : World} {tb : Nat} {t : Tr Int} (h : RInv w wr tb t) (n : Nat) : RInv w (wr.drewN n) tb t :=
  ⟨TreeAt.ext ((Ext.refl wr).drewN n) h.tree, h.res, ⟨h.below.os, h.below.tape, h.below.output, h.below.size, h.below.block⟩, h.htb, h.sorted, h.bal, h.keys⟩

theorem Tr.sorted_put {t : Tr Int} (h : t.sorted) (key x : Int) : (Tr.put key x t).sorted := by
  apply Tr.sorted_of_rising
  rw [Tr.list_put h]
  exact rising_ins (Tr.sorted_rising h)

theorem Tr.sorted_drop {t : Tr Int} (h : t.sorted) (key : Int) : (t.drop key).sorted := by
  apply Tr.sorted_of_rising
  rw [Tr.list_drop key h]
  exact rising_del (Tr.sorted_rising h)

theorem RInv.mod {w wr w' : World} {tb : Nat} {t t' : Tr Int} (h : RInv w wr tb t) (hM : Mod (fun k => k = tb) wr w') (ht : TreeAt w' tb t') (hs : t'.sorted) (hb : t'.bal) (hk : ∀ x ∈ t'.list, -9223372036854775808 ≤ x.1) : RInv w w' tb t' :=
  ⟨ht, hM.keep h.res (fun e => by have := h.htb; omega), h.below.trans (hM.below h.below.size (fun k e => by have := h.htb; omega)), h.htb, hs, hb, hk⟩

theorem put_r {w wr : World} {tb : Nat} {t : Tr Int} (h : RInv w wr tb t) (key x : Int) (hm : t.many < 1000000000) (hk : -9223372036854775808 ≤ key) :
    Calls Try.prog 9 #[.pointer (some ⟨tb, 0, none⟩), .int .i64 key, .int .i64 x] wr fun e w' => e = .returned (.bool (!(getR t key).2)) ∧ RInv w w' tb (.put key x t) := by
  refine (putT_any key x wr h.tree hm).mono ?_
  rintro e w' ⟨rfl, ht, hM⟩
  exact ⟨rfl, h.mod hM ht (Tr.sorted_put h.sorted key x) (Tr.bal_put h.bal).1 (by
    intro y hy
    rw [Tr.list_put h.sorted, mem_ins (Tr.sorted_rising h.sorted)] at hy
    rcases hy with rfl | hy
    · exact hk
    · exact h.keys y hy.1)⟩

/-- The tree behind a drop. -/
def dropped (t : Tr Int) (key : Int) : Tr Int := if (getR t key).2 then t.drop key else t

theorem dropped_list {t : Tr Int} (h : t.sorted) (key : Int) : (dropped t key).list = del key t.list := by
  unfold dropped
  split
  · exact Tr.list_drop key h
  · rename_i hn
    have hr := Tr.sorted_rising h
    refine rising_eq hr (rising_del hr) fun y => ?_
    rw [mem_del hr]
    constructor
    · refine fun hy => ⟨hy, fun e => hn ?_⟩
      unfold getR
      rw [Tr.get_look key h, ← e, look_of_mem hr hy]
    · exact fun h => h.1

theorem drop_r {w wr : World} {tb : Nat} {t : Tr Int} (h : RInv w wr tb t) (key : Int) (hm : t.many < 1000000000) :
    Calls Try.prog 13 #[.pointer (some ⟨tb, 0, none⟩), .int .i64 key] wr fun e w' => e = .returned (.bool (getR t key).2) ∧ RInv w w' tb (dropped t key) := by
  refine (dropT_any key wr h.tree hm h.sorted).mono ?_
  rintro e w' ⟨rfl, ht, hM⟩
  refine ⟨rfl, h.mod hM ht ?_ ?_ ?_⟩
  · unfold dropped; split
    · exact Tr.sorted_drop h.sorted key
    · exact h.sorted
  · unfold dropped; split
    · exact (Tr.bal_drop key h.bal).1
    · exact h.bal
  · intro y hy
    have e := dropped_list h.sorted key
    rw [e, mem_del (Tr.sorted_rising h.sorted)] at hy
    exact h.keys y hy.1

theorem many_dropped (t : Tr Int) (key : Int) : (dropped t key).many ≤ t.many := by
  unfold dropped; split
  · exact Tr.many_drop t key
  · exact Int.le_refl _

theorem wrap64_ge (n : Int) : -9223372036854775808 ≤ wrap64 n := by unfold wrap64; omega

theorem tmod_bound (n m : Int) (hm : 0 < m) : n.tmod m < m ∧ -m < n.tmod m := ⟨Int.tmod_lt_of_pos n hm, Int.lt_tmod_of_pos n hm⟩

theorem rem_pos {n m : Int} (hm : 0 < m) (h : 0 ≤ n.tmod m) : ∃ N : Nat, Value.int .i64 (n.tmod m) = .int .i64 N ∧ (N : Int) < m := by
  have := tmod_bound n m hm
  exact ⟨(n.tmod m).toNat, by rw [Int.toNat_of_nonneg h], by omega⟩

theorem rem_neg {n m : Int} (hm : 0 < m) (hm2 : m < 1000000) (h : n.tmod m < 0) : ∃ N : Nat, Value.int .i64 (wrap64 (-n.tmod m)) = .int .i64 N ∧ (N : Int) < m := by
  have := tmod_bound n m hm
  rw [IntWalk.wrap64_in _ (by omega)]
  exact ⟨(-n.tmod m).toNat, by rw [Int.toNat_of_nonneg (by omega)], by omega⟩

/-- A tree lies as it lay while what is no cells turns. -/
theorem treeAt_own {β : Type} (tb : Nat) (t : Tr Int) : Own (fun (_ : β) W => TreeAt W tb t) := by
  intro s A B row hs hg hr
  have hk : ∀ (k : Nat) (cs : Array Value) (T : TypeId) (fr : Nat × Nat), A.heap[k]? = some (.cells cs T fr) → B.heap[k]? = some (.cells cs T fr) := by
    intro k cs T fr hk
    refine (hg.block k (heap_lt hk) (fun e => ?_)).trans hk
    obtain ⟨o, ho, hc⟩ := hr k e.symm
    rw [hk] at ho
    injection ho with ho
    subst ho
    cases hc
  obtain ⟨p, h1, h2⟩ := hs
  exact ⟨p, hk _ _ _ _ h1, h2.keepT (fun k cs fr h => hk k cs _ fr h)⟩

def lastK (l : List (Int × Int)) : Int := (l.getLast?.map Prod.fst).getD 0

theorem lastK_snoc (l : List (Int × Int)) (x : Int × Int) : lastK (l ++ [x]) = x.1 := by simp [lastK]

theorem not_rising {l : List (Int × Int)} {x : Int × Int} (hl : 0 < l.length) (h : x.1 ≤ lastK l) : ¬ Rising (l ++ [x]) := by
  intro hr
  have hx := (List.pairwise_append.1 hr).2.2
  obtain ⟨y, hy⟩ : ∃ y, l.getLast? = some y := by
    cases l with
    | nil => simp at hl
    | cons a l => exact ⟨_, List.getLast?_eq_some_getLast (l := a :: l) (by simp)⟩
  have := hx y (List.mem_of_getLast? hy) x (by simp)
  simp [lastK, hy] at h
  omega

/-- A round that goes on. -/
theorem rows_step {w W : World} {wb tb : Nat} {t : Tr Int} {pre : List (Int × Int)} {x : Int × Int} (hl : Boxed W wb 3 (.int .i64 (lastK pre))) (hc : Boxed W (wb + 1) 3 (.int .i64 pre.length))
    (hr : Boxed W w.heap.size 4 (.bool false)) (ht : TreeAt W tb t) (hB : Below w.heap.size w W) (hlt : w.heap.size < wb) :
    KeepT W ((W.setCell ⟨wb, 0, none⟩ (.int .i64 x.1)).setCell ⟨wb + 1, 0, none⟩ (.int .i64 ((pre.length : Int) + 1))) ∧
    (Boxed ((W.setCell ⟨wb, 0, none⟩ (.int .i64 x.1)).setCell ⟨wb + 1, 0, none⟩ (.int .i64 ((pre.length : Int) + 1))) wb 3 (.int .i64 (lastK (pre ++ [x]))) ∧
      Boxed ((W.setCell ⟨wb, 0, none⟩ (.int .i64 x.1)).setCell ⟨wb + 1, 0, none⟩ (.int .i64 ((pre.length : Int) + 1))) (wb + 1) 3 (.int .i64 (pre ++ [x]).length) ∧
      Boxed ((W.setCell ⟨wb, 0, none⟩ (.int .i64 x.1)).setCell ⟨wb + 1, 0, none⟩ (.int .i64 ((pre.length : Int) + 1))) w.heap.size 4 (.bool false) ∧
      TreeAt ((W.setCell ⟨wb, 0, none⟩ (.int .i64 x.1)).setCell ⟨wb + 1, 0, none⟩ (.int .i64 ((pre.length : Int) + 1))) tb t) ∧
    Below w.heap.size w ((W.setCell ⟨wb, 0, none⟩ (.int .i64 x.1)).setCell ⟨wb + 1, 0, none⟩ (.int .i64 ((pre.length : Int) + 1))) := by
  have hM : Mod (fun k => k = wb ∨ k = wb + 1) W ((W.setCell ⟨wb, 0, none⟩ (.int .i64 x.1)).setCell ⟨wb + 1, 0, none⟩ (.int .i64 ((pre.length : Int) + 1))) :=
    ((Mod.refl _ W).setCell (p := ⟨wb, 0, none⟩) (.inl (.inl rfl)) _).setCell (p := ⟨wb + 1, 0, none⟩) (.inl (.inr rfl)) _
  have hno : ∀ k cs fr, (k = wb ∨ k = wb + 1) → W.heap[k]? ≠ some (.cells cs 55 fr) := by
    rintro k cs fr (rfl | rfl) h
    · rw [show W.heap[k]? = _ from hl] at h
      injection h with h
      injection h with h1 h2
      exact absurd h2 (by decide)
    · rw [show W.heap[wb + 1]? = _ from hc] at h
      injection h with h
      injection h with h1 h2
      exact absurd h2 (by decide)
  have htb : ¬ (tb = wb ∨ tb = wb + 1) := by
    obtain ⟨p, h1, _⟩ := ht
    rintro (rfl | rfl)
    · rw [show W.heap[tb]? = _ from hl] at h1
      injection h1 with h
      injection h with h1 h2
      exact absurd h2 (by decide)
    · rw [show W.heap[wb + 1]? = _ from hc] at h1
      injection h1 with h
      injection h with h1 h2
      exact absurd h2 (by decide)
  refine ⟨KeepT.of_mod hM hno, ⟨?_, ?_, ?_, ht.keep hM hno htb⟩, ?_⟩
  · rw [lastK_snoc]
    exact (hl.set _).other (by omega) _
  · simpa using (hc.other (by omega) _).set _
  · exact (hr.other (by omega) _).other (by omega) _
  · exact (hB.setCell (p := ⟨wb, 0, none⟩) (by simp; omega) _).setCell (p := ⟨wb + 1, 0, none⟩) (by simp; omega) _

/-- The end of a law: the result is set, the deferred are none. -/
theorem ret_box {w W : World} {D : Nat} {tmps : Array Value} {fn : Func} {F : Fence} {n : Nat} {bx : Nat} (hr : Boxed W w.heap.size 4 (.bool false)) (hfn : fn.results = #[.cell bx 4])
    (hB : Below w.heap.size w W) (hK : W.heap[D]? = some (.deferred (some []))) (hD : w.heap.size < D) (ht : tmps[bx]? = some (.pointer (some ⟨w.heap.size, 0, none⟩)) := by rfl) :
    bodyPostM F n Try.prog fn (fun e w' => e = .returned (.bool true) ∧ Below w.heap.size w w') .ret { tmps := tmps, defers := [{ target := .collected D, args := #[] }] } (W.setCell ⟨w.heap.size, 0, none⟩ (.bool true)).drew := by
  have hr2 : Boxed (W.setCell ⟨w.heap.size, 0, none⟩ (.bool true)).drew w.heap.size 4 (.bool true) := hr.set _
  have hB2 : Below w.heap.size w (W.setCell ⟨w.heap.size, 0, none⟩ (.bool true)).drew := (hB.setCell (p := ⟨w.heap.size, 0, none⟩) (Nat.le_refl _) _).drew
  have hK2 : (W.setCell ⟨w.heap.size, 0, none⟩ (.bool true)).drew.heap[D]? = some (.deferred (some [])) := (KeepsOthers.setCell W ⟨w.heap.size, 0, none⟩ (.bool true)).same D _ hK rfl
  generalize (W.setCell ⟨w.heap.size, 0, none⟩ (.bool true)).drew = W2 at hr2 hB2 hK2 ⊢
  refine ⟨by simp, .inl ⟨_, _, rfl, run_takeDeferred hK2, ?_⟩⟩
  have hr3 := boxed_own (β := Unit) w.heap.size 4 (fun _ => .bool true) () _ _ _ hr2 (grownBy_putObj' W2 D (.deferred none)) (fun r e => by cases e; exact ⟨_, hK2, rfl⟩)
  have hB3 := hB2.trans (belowK_b (w := w) (Nat.le_refl _) W2 D _ (.deferred none) (by omega) hK2 rfl rfl)
  have c0 := hr3.cell
  refine ⟨.bool true, ?_, rfl, hB3⟩
  simp [results, hfn, go_sem, c0, ht]

set_option maxRecDepth 100000 in
set_option maxHeartbeats 4000000 in
theorem treeRows_any (frm step n keep : Int) (w : World) (hfrm : -9223372036854775808 ≤ frm) :
    Calls Try.prog 3 #[.int .i64 frm, .int .i64 step, .int .i64 n, .int .i64 keep] w fun e w' => e = .returned (.bool true) ∧ Below w.heap.size w w' := by
  refine (callsIn_wide (n := 3)).1 ?_
  refine callsIn_of_wp_marks Try.func3 rfl trivial ?_ rfl
  simp only [Try.ntmps3, List.size_toArray, List.length_cons, List.length_nil, Nat.reduceAdd, Nat.reduceSub, Array.replicate_succ, Array.replicate_zero, List.push_toArray, List.append_toArray, List.nil_append, List.cons_append]
  refine wpIn_wide.2 ?_
  have hkn := known_any (w.alloc (.cells #[.bool false] 4))
  go_wp2_with fail
  refine hkn.mono ?_
  rintro e w1 ⟨rfl, hM1⟩
  clear hkn
  have hB1 : Below w.heap.size w w1 := ((Below.refl _ w).alloc (Nat.le_refl _) _).trans (hM1.below (by simp) (fun _ h => h.elim))
  have hR1 : Boxed w1 w.heap.size 4 (.bool false) := hM1.keep (Boxed.new w 4 (.bool false)) (fun h => h)
  go_upto_if 22 with (fail)
  go_cut [2] from 23 (fun n' wx => w1 = wx ∧ ∃ N : Nat, n' = .int .i64 N ∧ (N : Int) < 20001)
  case first =>
    go_wp2_with fail
    · go_meet
      exact ⟨rfl, rem_neg (by decide) (by decide) (by assumption)⟩
    · go_meet
      exact ⟨rfl, rem_pos (by decide) (by assumption)⟩
  case rest =>
    obtain ⟨rfl, N, rfl, hN⟩ := hcut
    go_upto_if 28 with (fail)
    go_cut [3] from 29 (fun n' wx => w1 = wx ∧ ∃ N : Nat, n' = .int .i64 N ∧ (N : Int) < 10)
    case first =>
      go_wp2_with fail
      · go_meet
        exact ⟨rfl, rem_neg (by decide) (by decide) (by assumption)⟩
      · go_meet
        exact ⟨rfl, rem_pos (by decide) (by assumption)⟩
    case rest =>
      obtain ⟨rfl, K, rfl, hK⟩ := hcut
      go_wp2_with fail
      refine (new_any _).mono ?_
      rintro e w2 ⟨rfl, ht2, hE2⟩
      obtain ⟨tb, htb⟩ : ∃ tb, w1.heap.size = tb := ⟨_, rfl⟩
      rw [htb] at ht2 ⊢
      have hs2 := hB1.size
      have hR2 : RInv w w2 tb .nil := ⟨ht2, hE2.keep hR1, hB1.trans (hE2.below.mono hs2), by have := hR1.lt; omega, trivial, trivial, fun _ h => (by cases h)⟩
      clear ht2 hE2 hR1 hB1 hM1 hs2 htb
      have HR2 := Lib.hid hR2
      clear hR2
      go_wp2_with fail
      go_loopg [10, 11] N (fun g k i wr => ∃ (j : Nat) (kk : Int) (t : Tr Int), j + g = N ∧ i = .int .i64 j ∧ k = .int .i64 kk ∧ Hid (RInv w wr tb t) ∧ t.many ≤ j ∧ -9223372036854775808 ≤ kk)
      case atStart => exact ⟨0, frm, .nil, by omega, rfl, rfl, HR2, Int.le_refl _, hfrm⟩
      case round =>
        obtain ⟨j, kk, t, hj, rfl, rfl, hR, hm, hkk⟩ := hrel
        by_cases hlt : (j : Int) < (N : Int)
        · have hput := put_r hR.out kk j (by omega) hkk
          have e2 : IntKind.i64.wrap ((j : Int) + 1) = ((j + 1 : Nat) : Int) := by rw [IntWalk.i64_in _ (by omega)]; rfl
          have hmp := Tr.many_put kk (j : Int) t
          clear HR2 hR
          go_wp2_with fail
          refine hput.mono ?_
          rintro e w3 ⟨rfl, hR3⟩
          have HR3 := Lib.hid hR3
          clear hput hR3
          go_wp2_with fail
          go_roundg (N - j - 1)
          case measure => omega
          case rel => exact ⟨j + 1, _, _, by omega, rfl, rfl, HR3, by omega, wrap64_ge _⟩
        · obtain rfl : j = N := by omega
          clear HR2 w2 hlt hkk
          have hlen := len_any wr hR.out.tree
          have hhi := height_any wr hR.out.tree
          have h64 := Tr.high_most hR.out.bal (by omega)
          have hle := least_of t.high wr t.high_nonneg h64
          have c1 : decide (t.many < Tr.want t.high.toNat) = false := decide_eq_false (by have := Tr.want_many hR.out.bal; omega)
          have c2 : decide ((j : Int) < t.many) = false := decide_eq_false (by omega)
          clear h64
          go_wp2_with (first
            | (go_at_call 10; (with_reducible refine hlen.mono ?_); rintro e w' ⟨rfl, rfl⟩)
            | (go_at_call 12; (with_reducible refine hhi.mono ?_); rintro e w' ⟨rfl, rfl⟩)
            | (go_at_call 11; (with_reducible refine hle.mono ?_); rintro e w' ⟨rfl, rfl⟩))
          clear hlen hhi hle c1 c2
          have hmN : t.many ≤ 20000 := by omega
          go_loopg [10, 12] j (fun g k i wr => ∃ (q : Nat) (kk : Int) (t : Tr Int), q + g = j ∧ i = .int .i64 q ∧ k = .int .i64 kk ∧ Hid (RInv w wr tb t) ∧ t.many ≤ 20000)
          case atStart => exact ⟨0, frm, t, by omega, rfl, rfl, hR, hmN⟩
          case round =>
            clear hR hm hmN
            obtain ⟨q, kq, t, hq, rfl, rfl, hR, hm⟩ := hrel
            by_cases hlt : (q : Int) < (j : Int)
            · have hdrop := drop_r hR.out kq (by omega)
              have hmd := many_dropped t kq
              have e2 : IntKind.i64.wrap ((q : Int) + 1) = ((q + 1 : Nat) : Int) := by rw [IntWalk.i64_in _ (by omega)]; rfl
              go_wp2_with fail
              · refine hdrop.mono ?_
                rintro e w3 ⟨rfl, hR3⟩
                have HR3 := Lib.hid hR3
                clear hdrop hR3
                go_wp2_with fail
                go_roundg (j - q - 1)
                case measure => omega
                case rel => exact ⟨q + 1, _, _, by omega, rfl, rfl, HR3, by omega⟩
              · clear hdrop
                go_roundg (j - q - 1)
                case measure => omega
                case rel => exact ⟨q + 1, _, _, by omega, rfl, rfl, hR, hm⟩
            · obtain rfl : q = j := by omega
              clear hlt
              have hlen := len_any wr hR.out.tree
              have hhi := height_any wr hR.out.tree
              have h64 := Tr.high_most hR.out.bal (by omega)
              have h0 := t.high_nonneg
              have hle := least_of t.high wr h0 h64
              have c1 : decide (t.many < Tr.want t.high.toNat) = false := decide_eq_false (by have := Tr.want_many hR.out.bal; omega)
              have c2 : decide (t.high < 0) = false := decide_eq_false (by omega)
              have c3 : decide (64 < t.high) = false := decide_eq_false (by omega)
              obtain ⟨p, htp, htt⟩ := hR.out.tree
              have cp := cell_of_heap htp 0
              simp only [List.getElem?_toArray, List.getElem?_cons_zero] at cp
              have cp2 := cell_kept (cell_kept cp (World.grownBy_alloc _ (.cells #[.int .i64 0] 3) none) (fun r e => by cases e)) (World.grownBy_alloc _ (.cells #[.int .i64 0] 3) none) (fun r e => by cases e)
              have HT := Lib.hid htt
              clear h64 h0 htp htt cp
              go_wp2_with (first
                | (go_at_call 10; (with_reducible refine hlen.mono ?_); rintro e w' ⟨rfl, rfl⟩)
                | (go_at_call 12; (with_reducible refine hhi.mono ?_); rintro e w' ⟨rfl, rfl⟩)
                | (go_at_call 11; (with_reducible refine hle.mono ?_); rintro e w' ⟨rfl, rfl⟩))
              refine (allT_any _ cp2).mono ?_
              rintro e w' ⟨rfl, rfl⟩
              clear cp2 hlen hhi hle c1 c2 c3
              go_wp2_with fail
              refine (wpIn_wide (n := 3)).1 ?_
              obtain ⟨w3, hw3⟩ : ∃ w3, (wr.alloc (.cells #[.int .i64 0] 3)).alloc (.cells #[.int .i64 0] 3) = w3 := ⟨_, rfl⟩
              have hs3 : w3.heap.size = wr.heap.size + 2 := by rw [← hw3]; simp
              have hE3 : Ext wr w3 := by rw [← hw3]; exact ((Ext.refl wr).alloc _).alloc _
              have hl3 : Boxed w3 wr.heap.size 3 (.int .i64 0) := by rw [← hw3]; exact (Boxed.new wr 3 (.int .i64 0)).alloc _
              have hc3 : Boxed w3 (wr.heap.size + 1) 3 (.int .i64 0) := by
                have := Boxed.new (wr.alloc (.cells #[.int .i64 0] 3)) 3 (.int .i64 0)
                rw [World.size_alloc] at this
                rw [← hw3]
                exact this
              rw [hw3]
              clear hw3
              have hL : overL (-9223372036854775808) t = t.list := overL_all hR.out.sorted hR.out.keys
              have hmL := Tr.many_list t
              have hrise := Tr.sorted_rising hR.out.sorted
              obtain ⟨hbs, _, _, hbE⟩ := boxed_facts w3 (-9223372036854775808) p
              have hst := boxed_stops 2 (w := w3) (key := -9223372036854775808) (HT.out.ext hE3)
              rw [hL, hs3] at hst
              obtain ⟨w4, hw4⟩ : ∃ w4, boxed w3 (-9223372036854775808) p = w4 := ⟨_, rfl⟩
              rw [hw4] at hst hbs hbE ⊢
              have hE4 := hE3.trans hbE
              have hl4 := hbE.keep hl3
              have hc4 := hbE.keep hc3
              have hr4 := hE4.keep hR.out.res
              have ht4 : TreeAt w4 tb t := TreeAt.ext hE4 hR.out.tree
              have hB4 : Below w.heap.size w w4 := hR.out.below.trans (hE4.below.mono hR.out.below.size)
              have hrlt := hR.out.res.lt
              have hN20 : t.list.length ≤ 20000 := by omega
              generalize t.list = L at hst hmL hrise hN20
              clear hw4 hbE hE4 hE3 hl3 hc3 HT hL
              refine rangeF_ex rfl (by omega) (gf := 34) (lb := #[.pointer (some ⟨wr.heap.size + 1 + 1 + 1, 0, none⟩), .pointer (some ⟨wr.heap.size + 1 + 1, 0, none⟩)]) rfl trivial (enters_of Try.func34 (by kernel_rfl) rfl)
                hst KeepT.trans (fun W l o o' hl hh hc _ => KeepT.putObj o' hh hc) (Below.refl _ _) (fun _ => rfl)
                (fun pre W => (Boxed W wr.heap.size 3 (.int .i64 (lastK pre)) ∧ Boxed W (wr.heap.size + 1) 3 (.int .i64 pre.length) ∧ Boxed W w.heap.size 4 (.bool false) ∧ TreeAt W tb t) ∧ Below w.heap.size w W)
                (fun c pre W => (c = .ret ∧ ¬ Rising pre) ∧ Below w.heap.size w W)
                (OwnFrom.and (Own.from (fun s A B row hs hg hr => ⟨boxed_own _ _ (fun s => .int .i64 (lastK s)) s A B row hs.1 hg hr, boxed_own _ _ (fun s => .int .i64 s.length) s A B row hs.2.1 hg hr, boxed_own _ _ (fun _ => .bool false) s A B row hs.2.2.1 hg hr, treeAt_own tb t s A B row hs.2.2.2 hg hr⟩) _) (ownFrom_below (Nat.le_refl _) (by omega)))
                (fun c => OwnFrom.and (ownFrom_pure _ _) (ownFrom_below (Nat.le_refl _) (by omega)))
                ⟨⟨hl4, hc4, hr4, ht4⟩, hB4⟩ ?ex ?done ?stop
              case ex =>
                apply Exists.intro
                apply And.intro
                · intro l x W K hK
                  simp only [enc2]
                  gi_wp2
                  exact hK
                · rintro l pre x W ⟨⟨hl, hc, hr, ht⟩, hB⟩ hlen
                  have hKO : KeepsOthers W ((W.setCell ⟨wr.heap.size, 0, none⟩ (.int .i64 x.1)).setCell ⟨wr.heap.size + 1, 0, none⟩ (.int .i64 ((pre.length : Int) + 1))) := (KeepsOthers.setCell _ _ _).trans (KeepsOthers.setCell _ _ _)
                  have hend := rows_step (x := x) hl hc hr ht hB hrlt
                  have d0 := hl.cell
                  have d1 := hc.cell
                  have d2 := hr.cell
                  have f0 := hl.frozen
                  have f1 := hc.frozen
                  have f2 := hr.frozen
                  by_cases hz : pre = []
                  · subst hz
                    simp only [List.length_nil, Int.cast_ofNat_Int, lastK, List.getLast?_nil, Option.map_none, Option.getD_none] at d0 d1
                    have HE := Lib.hid hend
                    have HKO := Lib.hid hKO
                    clear hend hlen hKO
                    gi_wp2
                    exact ⟨HKO.out, HE.out.1, HE.out.2.1, HE.out.2.2⟩
                  · have hp : 0 < pre.length := List.length_pos_iff.2 hz
                    have hb1 : decide ((0 : Int) < (pre.length : Int)) = true := decide_eq_true (by omega)
                    have e1 : IntKind.i64.wrap ((pre.length : Int) + 1) = (pre.length : Int) + 1 := IntWalk.i64_in _ (by omega)
                    have HE := Lib.hid hend
                    have HZ := Lib.hid hp
                    have HKO := Lib.hid hKO
                    clear hend hlen hz hp hKO
                    gi_wp2
                    · exact ⟨KeepsOthers.setCell _ _ _, ⟨rfl, not_rising HZ.out (by assumption)⟩, hB.setCell (p := ⟨w.heap.size, 0, none⟩) (Nat.le_refl _) _⟩
                    · exact ⟨HKO.out, HE.out.1, HE.out.2.1, HE.out.2.2⟩
              case done =>
                rintro D ys W hD rfl ⟨⟨hl, hc, hr, ht⟩, hB⟩ hK
                have hlen := len_any W.drew (TreeAt.ext ((Ext.refl W).drew) ht)
                rw [hmL] at hlen
                have d1 := hc.cell
                have d2 := hr.cell
                have f2 := hr.frozen
                have HR := Lib.hid hr
                clear hmL hrise hN20 hst hl ht hc hr
                go_wp2
                refine wp_only ?_
                go_region_with (go_at_call 10; (with_reducible refine hlen.mono ?_); rintro e w' ⟨rfl, rfl⟩)
                all_goals simp only [onlyNormal]
                all_goals go_wp2
                all_goals exact ret_box HR.out rfl hB hK (by omega)
              case stop =>
                rintro D c pre W hD ⟨tl, htl⟩ ⟨⟨rfl, hnr⟩, hB⟩ hK
                exact absurd (List.pairwise_append.1 (htl ▸ hrise)).1 hnr

end Go.Proofs.Ytpkapfhfnnfomaa
