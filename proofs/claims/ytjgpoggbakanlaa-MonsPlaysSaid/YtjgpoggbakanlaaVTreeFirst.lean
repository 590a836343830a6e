/- First: a return in a range over a sequence of elements of three cells. -/
import Derived.Test.YtjgpoggbakanlaaVTreeIter2
import Derived.Test.YtjgpoggbakanlaaRangeH
import Derived.Shelf.RegionOpen
namespace Go.Proofs.Ytjgpoggbakanlaa
open Go.RowKit Go.Shelf
attribute [local irreducible] Ext
attribute [local go_sem] Oper.semAt_some

/-- A box of an element. -/
def Box3 (W : World) (B : Nat) (x : (Int × Int × ByteArray)) : Prop := W.heap[B]? = some (.cells #[.int .i64 x.1, .int .i64 x.2.1, .string x.2.2] 31 (0, 0))

theorem Box3.lt {W : World} {B : Nat} {x : (Int × Int × ByteArray)} (h : Box3 W B x) : B < W.heap.size := heap_lt h

theorem Box3.new (W : World) (x : (Int × Int × ByteArray)) : Box3 (W.alloc (.cells #[.int .i64 x.1, .int .i64 x.2.1, .string x.2.2] 31)) W.heap.size x := heap_alloc_new W _

theorem Box3.alloc {W : World} {B : Nat} {x : (Int × Int × ByteArray)} (h : Box3 W B x) (o : Obj) : Box3 (W.alloc o) B x := (Below.heap_alloc _ _ _ h.lt).trans h

theorem Box3.other {W : World} {B : Nat} {x : (Int × Int × ByteArray)} (h : Box3 W B x) {p : Addr} (hne : B ≠ p.block) (u : Value) : Box3 (W.setCell p u) B x := (Below.heap_setCell _ _ _ _ hne).trans h

theorem Box3.set {W : World} {B : Nat} {y : (Int × Int × ByteArray)} (h : Box3 W B y) (x : (Int × Int × ByteArray)) : Box3 (((W.setCell ⟨B, 0, none⟩ (.int .i64 x.1)).setCell ⟨B, 1, none⟩ (.int .i64 x.2.1)).setCell ⟨B, 2, none⟩ (.string x.2.2)) B x := by
  have h1 := heap_set (o := 0) h (.int .i64 x.1)
  have h2 := heap_set (o := 1) h1 (.int .i64 x.2.1)
  have h3 := heap_set (o := 2) h2 (.string x.2.2)
  simpa [Box3] using h3

theorem Box3.cells {W : World} {B : Nat} {x : (Int × Int × ByteArray)} (h : Box3 W B x) : W.cell? ⟨B, 0, none⟩ = some (.int .i64 x.1) ∧ W.cell? ⟨B, 1, none⟩ = some (.int .i64 x.2.1) ∧ W.cell? ⟨B, 2, none⟩ = some (.string x.2.2) ∧
    W.frozen? ⟨B, 0, none⟩ = false ∧ W.frozen? ⟨B, 1, none⟩ = false ∧ W.frozen? ⟨B, 2, none⟩ = false := by
  have h' := h
  unfold Box3 at h'
  exact ⟨by simp [cell_of_heap h'], by simp [cell_of_heap h'], by simp [cell_of_heap h'], free_of_heap h' 0, free_of_heap h' 1, free_of_heap h' 2⟩

theorem box3_own {β : Type} (B : Nat) (x : β → (Int × Int × ByteArray)) : Own (fun s W => Box3 W B (x s)) := by
  intro s X Y row hs hg hr
  refine (hg.block B hs.lt (fun e => ?_)).trans hs
  obtain ⟨o, ho, hc⟩ := hr B e.symm
  rw [show X.heap[B]? = _ from hs] at ho
  injection ho with ho
  subst ho
  cases hc

/-- The least key of a rising list. -/
def firstR : List (Int × (Int × Int × ByteArray)) → Value
  | [] => .tuple #[.int .i64 0, .agg #[.int .i64 0, .int .i64 0, .string ⟨#[]⟩], .bool false]
  | x :: _ => .tuple #[.int .i64 x.1, .agg #[.int .i64 x.2.1, .int .i64 x.2.2.1, .string x.2.2.2], .bool true]

def Res3 (B : Nat) (a : Int) (b : (Int × Int × ByteArray)) (c : Bool) (W : World) : Prop := Boxed W B 3 (.int .i64 a) ∧ Box3 W (B + 1) b ∧ Boxed W (B + 1 + 1) 4 (.bool c)

theorem mod_of_below {w W : World} (h : Below w.heap.size w W) : Mod (fun _ => False) w W := ⟨h.os, h.tape, h.output, h.size, fun k hk _ => h.block k hk⟩

theorem ext_of_below {w W : World} (h : Below w.heap.size w W) : Ext w W := by unfold Ext; exact mod_of_below h

theorem res3_own (B : Nat) (a : Int) (b : (Int × Int × ByteArray)) (c : Bool) {β : Type} : Own (fun (_ : β) W => Res3 B a b c W) := fun s X Y row hs hg hrow =>
  ⟨boxed_own (β := β) _ _ (fun _ => _) s X Y row hs.1 hg hrow, box3_own (β := β) _ (fun _ => _) s X Y row hs.2.1 hg hrow, boxed_own (β := β) _ _ (fun _ => _) s X Y row hs.2.2 hg hrow⟩

/-- The world behind the three results. -/
def setR (W : World) (B : Nat) (a : Int) (b : (Int × Int × ByteArray)) (c : Bool) : World :=
  ((((W.setCell ⟨B, 0, none⟩ (.int .i64 a)).setCell ⟨B + 1, 0, none⟩ (.int .i64 b.1)).setCell ⟨B + 1, 1, none⟩ (.int .i64 b.2.1)).setCell ⟨B + 1, 2, none⟩ (.string b.2.2)).setCell ⟨B + 1 + 1, 0, none⟩ (.bool c)

theorem boxed_far {W : World} {B : Nat} {t : TypeId} {v : Value} (h : Boxed W B t v) (p : Addr) (hne : B ≠ p.block) (u : Value) : Boxed (W.setCell p u) B t v := (Below.heap_setCell _ _ _ _ hne).trans h

theorem Res3.set {B : Nat} {a : Int} {b : (Int × Int × ByteArray)} {c : Bool} {W : World} (h : Res3 B a b c W) (a' : Int) (b' : (Int × Int × ByteArray)) (c' : Bool) : Res3 B a' b' c' (setR W B a' b' c') := by
  unfold setR
  obtain ⟨h1, h2, h3⟩ := h
  have n1 : B ≠ B + 1 := by omega
  have n2 : B ≠ B + 1 + 1 := by omega
  have n3 : B + 1 ≠ B := by omega
  have n4 : B + 1 ≠ B + 1 + 1 := by omega
  have n5 : B + 1 + 1 ≠ B := by omega
  have n6 : B + 1 + 1 ≠ B + 1 := by omega
  have g1 := boxed_far (boxed_far (boxed_far (boxed_far (h1.set (.int .i64 a')) ⟨B + 1, 0, none⟩ n1 (.int .i64 b'.1)) ⟨B + 1, 1, none⟩ n1 (.int .i64 b'.2.1)) ⟨B + 1, 2, none⟩ n1 (.string b'.2.2)) ⟨B + 1 + 1, 0, none⟩ n2 (.bool c')
  have g2 := ((h2.other (p := ⟨B, 0, none⟩) n3 (.int .i64 a')).set b').other (p := ⟨B + 1 + 1, 0, none⟩) n4 (.bool c')
  have g3 := (boxed_far (boxed_far (boxed_far (boxed_far h3 ⟨B, 0, none⟩ n5 (.int .i64 a')) ⟨B + 1, 0, none⟩ n6 (.int .i64 b'.1)) ⟨B + 1, 1, none⟩ n6 (.int .i64 b'.2.1)) ⟨B + 1, 2, none⟩ n6 (.string b'.2.2)).set (.bool c')
  exact ⟨g1, g2, g3⟩

theorem setR_keeps (W : World) (B : Nat) (a : Int) (b : (Int × Int × ByteArray)) (c : Bool) : KeepsOthers W (setR W B a b c) :=
  ((((KeepsOthers.setCell _ _ _).trans (KeepsOthers.setCell _ _ _)).trans (KeepsOthers.setCell _ _ _)).trans (KeepsOthers.setCell _ _ _)).trans (KeepsOthers.setCell _ _ _)

theorem ko_drew (W : World) : KeepsOthers W W.drew := KeepsOthers.of_grownBy (row := none) ⟨rfl, rfl, rfl, Nat.le_refl _, fun _ _ _ => rfl⟩ (fun j o e => by cases e)

theorem setR_drew_keeps (W : World) (B : Nat) (a : Int) (b : (Int × Int × ByteArray)) (c : Bool) : KeepsOthers W (setR W B a b c).drew := (setR_keeps W B a b c).trans (ko_drew _)

theorem setR_below {w W : World} {B : Nat} (h : Below w.heap.size w W) (hB : w.heap.size ≤ B) (a : Int) (b : (Int × Int × ByteArray)) (c : Bool) : Below w.heap.size w (setR W B a b c) :=
  ((((h.setCell (p := ⟨B, 0, none⟩) hB _).setCell (p := ⟨B + 1, 0, none⟩) (by simp; omega) _).setCell (p := ⟨B + 1, 1, none⟩) (by simp; omega) _).setCell (p := ⟨B + 1, 2, none⟩) (by simp; omega) _).setCell (p := ⟨B + 1 + 1, 0, none⟩) (by simp; omega) _

theorem KeepT.alloc (W : World) (o : Obj) : KeepT W (W.alloc o) := fun _ _ _ h => (Below.heap_alloc _ _ _ (heap_lt h)).trans h

set_option maxRecDepth 100000 in
set_option maxHeartbeats 4000000 in
theorem first_any {b : Nat} {T : Tr (Int × Int × ByteArray)} (w : World) (ht : TreeAt w b T) :
    Calls Try.prog 42 #[.pointer (some ⟨b, 0, none⟩)] w fun e w' => e = .returned (firstR (overL (-9223372036854775808) T)) ∧ Mod (fun _ => False) w w' := by
  obtain ⟨p, hb, ht⟩ := ht
  have c0 := cell_of_heap hb 0
  simp only [List.getElem?_toArray, List.getElem?_cons_zero] at c0
  clear hb
  generalize hL : overL (-9223372036854775808) T = L
  have h1 : 1 ≤ 3 := by omega
  refine (callsIn_wide (n := 3)).1 ?_
  refine callsIn_of_wp_marks Try.func42 rfl trivial ?_ rfl
  simp only [Try.ntmps42, List.size_toArray, List.length_cons, List.length_nil, Nat.reduceAdd, Nat.reduceSub, Array.replicate_succ, Array.replicate_zero, List.push_toArray, List.append_toArray, List.nil_append, List.cons_append]
  have hall := allT_any (b := b) (p := p)
  gi_wp2_with (refine ⟨trivial, ?_⟩; gi_at_call 47; (with_reducible refine (callsIn_wide.2 (hall _ (cell_kept (cell_kept (cell_kept c0 (World.grownBy_alloc _ _ none) (fun r e => by cases e)) (World.grownBy_alloc _ _ none) (fun r e => by cases e)) (World.grownBy_alloc _ _ none) (fun r e => by cases e)))).mono ?_); rintro e w' ⟨rfl, rfl⟩)
  clear hall
  obtain ⟨w3, hw3⟩ : ∃ w3, ((w.alloc (Obj.cells #[Value.int IntKind.i64 0] 3)).alloc (Obj.cells #[.int .i64 0, .int .i64 0, .string ⟨#[]⟩] 31)).alloc (Obj.cells #[Value.bool false] 4) = w3 := ⟨_, rfl⟩
  have hs3 : w3.heap.size = w.heap.size + 3 := by rw [← hw3]; simp
  have hE3 : Below w.heap.size w w3 := by rw [← hw3]; exact (((Below.refl _ w).alloc (Nat.le_refl _) _).alloc (by simp) _).alloc (by simp; omega) _
  have hR3 : Res3 w.heap.size 0 (0, 0, ⟨#[]⟩) false w3 := by
    have b0 := Boxed.new w 3 (.int .i64 0)
    have b1 := Box3.new (w.alloc (.cells #[.int .i64 0] 3)) (0, 0, ⟨#[]⟩)
    have b2 := Boxed.new ((w.alloc (.cells #[.int .i64 0] 3)).alloc (.cells #[.int .i64 0, .int .i64 0, .string ⟨#[]⟩] 31)) 4 (.bool false)
    simp only [World.size_alloc] at b1 b2
    rw [← hw3]
    exact ⟨(b0.alloc _).alloc _, b1.alloc _, b2⟩
  rw [hw3] at *
  obtain ⟨hbs, _, _, hbE⟩ := boxed_facts w3 (-9223372036854775808) p
  have hst := boxed_stops 2 (w := w3) (key := -9223372036854775808) (ht.ext (ext_of_below hE3))
  rw [hL, hs3] at hst
  obtain ⟨w4, hw4⟩ : ∃ w4, boxed w3 (-9223372036854775808) p = w4 := ⟨_, rfl⟩
  have hR4 : Res3 w.heap.size 0 (0, 0, ⟨#[]⟩) false w4 := by rw [← hw4]; exact ⟨(hR3.1.alloc _).alloc _, (hR3.2.1.alloc _).alloc _, (hR3.2.2.alloc _).alloc _⟩
  have hB4 : Below w.heap.size w w4 := by rw [← hw4]; exact hE3.trans (hbE.below.mono (by omega))
  rw [hw4] at hst hbs ⊢
  clear hw4 hbE hR3 hE3 hw3 ht c0 hL
  refine rangeH_ex rfl h1 (gf := 66) (lb := #[.pointer (some ⟨w.heap.size + 1 + 1 + 1 + 1, 0, none⟩), .pointer (some ⟨w.heap.size + 1 + 1 + 1, 0, none⟩)]) rfl trivial (enters_of Try.func66 (by kernel_rfl) rfl)
    hst KeepT.trans (fun W l o o' hl hh hc _ => KeepT.putObj o' hh hc) (Below.refl _ _) (fun _ => rfl) KeepT.alloc (fun x => #[.int .i64 x.2.1, .int .i64 x.2.2.1, .string x.2.2.2]) 31
    (fun pre W => (pre = [] ∧ Res3 w.heap.size 0 (0, 0, ⟨#[]⟩) false W) ∧ (Below w.heap.size w W ∧ w4.heap.size ≤ W.heap.size))
    (fun c pre W => (c = .ret ∧ ∃ x, pre = [x] ∧ Res3 w.heap.size x.1 x.2 true W) ∧ Below w.heap.size w W)
    (OwnFrom.and (fun s A B row hs hg hr => ⟨hs.1, res3_own _ _ _ _ s A B row hs.2 hg (fun r e => (hr r e).2)⟩) (OwnFrom.and (ownFrom_below (Nat.le_refl _) (by omega)) (fun s A B row hs hg hr => Nat.le_trans hs hg.size)))
    (fun c => OwnFrom.and (fun s A B row hs hg hr => ⟨hs.1, hs.2.elim fun x h => ⟨x, h.1, res3_own _ _ _ _ s A B row h.2 hg (fun r e => (hr r e).2)⟩⟩) (ownFrom_below (Nat.le_refl _) (by omega)))
    (fun pre W h => h.2.2) ⟨⟨rfl, hR4⟩, hB4, Nat.le_refl _⟩ ?ex ?done ?stop
  case ex =>
    apply Exists.intro
    apply And.intro
    · intro l x W K hK
      simp only [enc2]
      gi_wp2
      generalize W.heap.size = bk at hK ⊢
      exact hK
    · rintro l pre x bk W hbk ⟨⟨rfl, hR⟩, hB, hsz⟩ hx _
      have hS := hR.set x.1 x.2 true
      have hKo := setR_drew_keeps W w.heap.size x.1 x.2 true
      have hSB := setR_below hB (Nat.le_refl _) x.1 x.2 true
      obtain ⟨x0, x1, x2, _, _, _⟩ := Box3.cells (x := x.2) hx
      have c0 := hR.1.cell
      obtain ⟨d0, d1, d2, e0, e1, e2⟩ := hR.2.1.cells
      have c2 := hR.2.2.cell
      have f0 := hR.1.frozen
      have f2 := hR.2.2.frozen
      have hx3 : Box3 (W.setCell ⟨w.heap.size, 0, none⟩ (.int .i64 x.1)) bk x.2 := Box3.other hx (by simp; omega) _
      obtain ⟨y0, y1, y2, _, _, _⟩ := hx3.cells
      have HS := Lib.hid hS
      have HKo := Lib.hid hKo
      have HSB := Lib.hid hSB
      clear hS hKo hSB hR hB hx hx3
      gi_wp2_with fail
      refine wpIn_region_round (l := l) rfl (by kernel_rfl) (by kernel_rfl) ?_
      change wpAnyIn _ _ _ _ _ _ _ _ _ (World.drew _)
      refine wpAnyIn_take (i := 0) (v := ?_) rfl rfl (by kernel_rfl) (by kernel_rfl) (by kernel_rfl) (fun _ _ _ h => h) ⟨Or.inl ⟨by kernel_rfl, ?_⟩, fun _ => by kernel_rfl⟩ ?_
      rotate_left
      · (intro w; go_simp); try rfl
      refine wpAnyIn_ready (rs := [1, 2]) (by kernel_rfl) (by simp) ?_
      refine AllReadyIn.cons rfl (fun K hK => ?_) (AllReadyIn.cons rfl (fun K hK => ?_) AllReadyIn.nil)
      · go_simp
        refine hK _ _ ?_; clear hK K
        refine wpAnyIn_ready (rs := [2]) (by kernel_rfl) (by simp) ?_
        refine AllReadyIn.cons rfl (fun K hK => ?_) AllReadyIn.nil
        go_simp
        refine hK _ _ ?_; clear hK K
        refine wpAnyIn_ready (rs := [3]) (by kernel_rfl) (by simp) ?_
        refine AllReadyIn.cons rfl (fun K hK => ?_) AllReadyIn.nil
        go_simp
        refine hK _ _ ?_; clear hK K
        refine wpAnyIn_ready (rs := [4]) (by kernel_rfl) (by simp) ?_
        refine AllReadyIn.cons rfl (fun K hK => ?_) AllReadyIn.nil
        go_simp
        refine hK _ _ ?_; clear hK K
        refine wpAnyIn_done (by kernel_rfl) ?_ _
        gi_wp2
        exact ⟨HKo.out.from _, ⟨rfl, x, rfl, HS.out⟩, HSB.out.drew⟩
      · go_simp
        refine hK _ _ ?_; clear hK K
        refine wpAnyIn_ready (rs := [1]) (by kernel_rfl) (by simp) ?_
        refine AllReadyIn.cons rfl (fun K hK => ?_) AllReadyIn.nil
        go_simp
        refine hK _ _ ?_; clear hK K
        refine wpAnyIn_ready (rs := [3]) (by kernel_rfl) (by simp) ?_
        refine AllReadyIn.cons rfl (fun K hK => ?_) AllReadyIn.nil
        go_simp
        refine hK _ _ ?_; clear hK K
        refine wpAnyIn_ready (rs := [4]) (by kernel_rfl) (by simp) ?_
        refine AllReadyIn.cons rfl (fun K hK => ?_) AllReadyIn.nil
        go_simp
        refine hK _ _ ?_; clear hK K
        refine wpAnyIn_done (by kernel_rfl) ?_ _
        gi_wp2
        exact ⟨HKo.out.from _, ⟨rfl, x, rfl, HS.out⟩, HSB.out.drew⟩
  case done =>
    rintro D ys W hD rfl ⟨⟨rfl, hR⟩, hB, _⟩ hK
    have hS := hR.set 0 (0, 0, ⟨#[]⟩) false
    have hSB := setR_below hB (Nat.le_refl _) 0 (0, 0, ⟨#[]⟩) false
    have hKo := setR_keeps W w.heap.size 0 (0, 0, ⟨#[]⟩) false
    have hR1 : Res3 w.heap.size 0 (0, 0, ⟨#[]⟩) false (W.setCell ⟨w.heap.size, 0, none⟩ (.int .i64 0)) := ⟨hR.1.set _, hR.2.1.other (by simp) _, hR.2.2.other (by omega) _⟩
    have c0 := hR.1.cell
    obtain ⟨d0, d1, d2, e0, e1, e2⟩ := hR.2.1.cells
    have c2 := hR.2.2.cell
    have f0 := hR.1.frozen
    have f2 := hR.2.2.frozen
    obtain ⟨g0, g1, g2, i0, i1, i2⟩ := hR1.2.1.cells
    have HS := Lib.hid hS
    have HSB := Lib.hid hSB
    have HKK := Lib.hid (hKo.same D _ hK rfl)
    clear hS hSB hKo hR hR1 hB hK
    gi_wp2
    gi_region
    all_goals gi_wp2
    have hSd : Res3 w.heap.size 0 (0, 0, ⟨#[]⟩) false (setR W w.heap.size 0 (0, 0, ⟨#[]⟩) false).drew := HS.out
    have hBd := HSB.out.drew
    have hKd : (setR W w.heap.size 0 (0, 0, ⟨#[]⟩) false).drew.heap[D]? = some (.deferred (some [])) := HKK.out
    change bodyPostM Fence.wide 3 Try.prog Try.f42 _ Exit.ret _ (setR W w.heap.size 0 (0, 0, ⟨#[]⟩) false).drew
    generalize (setR W w.heap.size 0 (0, 0, ⟨#[]⟩) false).drew = W5 at hSd hBd hKd ⊢
    refine ⟨by simp, .inl ⟨_, _, rfl, run_takeDeferred hKd, ?_⟩⟩
    have hB2 := hBd.trans (belowK_b (w := w) (Nat.le_refl _) W5 D _ (.deferred none) (by omega) hKd rfl rfl)
    have hR2 := res3_own (β := Unit) _ _ _ _ () _ _ _ hSd (grownBy_putObj' W5 D (.deferred none)) (fun r e => by cases e; exact ⟨_, hKd, rfl⟩)
    have c0 := hR2.1.cell
    obtain ⟨d0, d1, d2, _, _, _⟩ := hR2.2.1.cells
    have c2 := hR2.2.2.cell
    refine ⟨firstR [], ?_, rfl, mod_of_below hB2⟩
    simp [results, Try.f42, go_sem, c0, d0, d1, d2, c2, firstR]
  case stop =>
    rintro D c pre W hD hpre ⟨⟨rfl, x, rfl, hR⟩, hB⟩ hK
    gi_wp2
    refine ⟨by simp, .inl ⟨_, _, rfl, run_takeDeferred hK, ?_⟩⟩
    have hB2 := hB.trans (belowK_b (w := w) (Nat.le_refl _) W D _ (.deferred none) (by omega) hK rfl rfl)
    have hR2 := res3_own (β := Unit) _ _ _ _ () _ _ _ hR (grownBy_putObj' W D (.deferred none)) (fun r e => by cases e; exact ⟨_, hK, rfl⟩)
    have c0 := hR2.1.cell
    obtain ⟨d0, d1, d2, _, _, _⟩ := hR2.2.1.cells
    have c2 := hR2.2.2.cell
    obtain ⟨L', rfl⟩ : ∃ L', L = x :: L' := by
      obtain ⟨t, ht⟩ := hpre
      exact ⟨t, ht.symm⟩
    refine ⟨firstR (x :: L'), ?_, rfl, mod_of_below hB2⟩
    simp [results, Try.f42, go_sem, c0, d0, d1, d2, c2, firstR]

end Go.Proofs.Ytjgpoggbakanlaa
