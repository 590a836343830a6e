/- First: a return in a range over a sequence. -/
import Derived.Test.YtpkapfhfnnfomaaTreeIter2
import Derived.RangeFuncNested
import Derived.Shelf.RegionOpen
namespace Go.Proofs.Ytpkapfhfnnfomaa
open Go.RowKit Go.Shelf
attribute [local irreducible] Ext
attribute [local go_sem] Oper.semAt_some

/-- The least key of a rising list. -/
def firstR : List (Int × Int) → Value
  | [] => .tuple #[.int .i64 0, .int .i64 0, .bool false]
  | x :: _ => .tuple #[.int .i64 x.1, .int .i64 x.2, .bool true]

def Res3 (B : Nat) (a b : Int) (c : Bool) (W : World) : Prop := Boxed W B 3 (.int .i64 a) ∧ Boxed W (B + 1) 3 (.int .i64 b) ∧ Boxed W (B + 2) 4 (.bool c)

theorem mod_of_below {w W : World} (h : Below w.heap.size w W) : Mod (fun _ => False) w W := ⟨h.os, h.tape, h.output, h.size, fun k hk _ => h.block k hk⟩

theorem ext_of_below {w W : World} (h : Below w.heap.size w W) : Ext w W := by unfold Ext; exact mod_of_below h

theorem res3_own (B : Nat) (a b : Int) (c : Bool) {β : Type} : Own (fun (_ : β) W => Res3 B a b c W) := fun s X Y row hs hg hrow =>
  ⟨boxed_own (β := β) _ _ (fun _ => _) s X Y row hs.1 hg hrow, boxed_own (β := β) _ _ (fun _ => _) s X Y row hs.2.1 hg hrow, boxed_own (β := β) _ _ (fun _ => _) s X Y row hs.2.2 hg hrow⟩

theorem Res3.set {B : Nat} {a b : Int} {c : Bool} {W : World} (h : Res3 B a b c W) (a' b' : Int) (c' : Bool) :
    Res3 B a' b' c' (((W.setCell ⟨B, 0, none⟩ (.int .i64 a')).setCell ⟨B + 1, 0, none⟩ (.int .i64 b')).setCell ⟨B + 2, 0, none⟩ (.bool c')) := by
  refine ⟨?_, ?_, ?_⟩
  · exact ((h.1.set _).other (by omega) _).other (by omega) _
  · exact ((h.2.1.other (by omega) _).set _).other (by omega) _
  · exact ((h.2.2.other (by omega) _).other (by omega) _).set _

set_option maxRecDepth 100000 in
set_option maxHeartbeats 2000000 in
theorem first_any {b : Nat} {T : Tr Int} (w : World) (ht : TreeAt w b T) :
    Calls Try.prog 30 #[.pointer (some ⟨b, 0, none⟩)] w fun e w' => e = .returned (firstR (overL (-9223372036854775808) T)) ∧ Mod (fun _ => False) w w' := by
  obtain ⟨p, hb, ht⟩ := ht
  have c0 := cell_of_heap hb 0
  simp only [List.getElem?_toArray, List.getElem?_cons_zero] at c0
  clear hb
  generalize hL : overL (-9223372036854775808) T = L
  have h1 : 1 ≤ 3 := by omega
  refine (callsIn_wide (n := 3)).1 ?_
  refine callsIn_of_wp_marks Try.func30 rfl trivial ?_ rfl
  simp only [Try.ntmps30, List.size_toArray, List.length_cons, List.length_nil, Nat.reduceAdd, Nat.reduceSub, Array.replicate_succ, Array.replicate_zero, List.push_toArray, List.append_toArray, List.nil_append, List.cons_append]
  have hall := allT_any (b := b) (p := p)
  gi_wp2_with (refine ⟨trivial, ?_⟩; gi_at_call 14; (with_reducible refine (callsIn_wide.2 (hall _ (cell_kept (cell_kept (cell_kept c0 (World.grownBy_alloc _ _ none) (fun r e => by cases e)) (World.grownBy_alloc _ _ none) (fun r e => by cases e)) (World.grownBy_alloc _ _ none) (fun r e => by cases e)))).mono ?_); rintro e w' ⟨rfl, rfl⟩)
  clear hall
  obtain ⟨w3, hw3⟩ : ∃ w3, ((w.alloc (Obj.cells #[Value.int IntKind.i64 0] 3)).alloc (Obj.cells #[Value.int IntKind.i64 0] 3)).alloc (Obj.cells #[Value.bool false] 4) = w3 := ⟨_, rfl⟩
  have hs3 : w3.heap.size = w.heap.size + 3 := by rw [← hw3]; simp
  have hE3 : Below w.heap.size w w3 := by rw [← hw3]; exact (((Below.refl _ w).alloc (Nat.le_refl _) _).alloc (by simp) _).alloc (by simp; omega) _
  have hR3 : Res3 w.heap.size 0 0 false w3 := by
    have b0 := Boxed.new w 3 (.int .i64 0)
    have b1 := Boxed.new (w.alloc (.cells #[.int .i64 0] 3)) 3 (.int .i64 0)
    have b2 := Boxed.new ((w.alloc (.cells #[.int .i64 0] 3)).alloc (.cells #[.int .i64 0] 3)) 4 (.bool false)
    simp only [World.size_alloc] at b1 b2
    rw [← hw3]
    exact ⟨(b0.alloc _).alloc _, b1.alloc _, b2⟩
  rw [hw3] at *
  obtain ⟨hbs, _, _, hbE⟩ := boxed_facts w3 (-9223372036854775808) p
  have hst := boxed_stops 2 (w := w3) (key := -9223372036854775808) (ht.ext (ext_of_below hE3))
  rw [hL, hs3] at hst
  obtain ⟨w4, hw4⟩ : ∃ w4, boxed w3 (-9223372036854775808) p = w4 := ⟨_, rfl⟩
  have hR4 : Res3 w.heap.size 0 0 false w4 := by rw [← hw4]; exact ⟨(hR3.1.alloc _).alloc _, (hR3.2.1.alloc _).alloc _, (hR3.2.2.alloc _).alloc _⟩
  have hB4 : Below w.heap.size w w4 := by rw [← hw4]; exact hE3.trans (hbE.below.mono (by omega))
  rw [hw4] at hst hbs ⊢
  clear hw4 hbE hR3 hE3 hw3 ht c0 hL
  refine wpIn_rangeFunc_ownF rfl h1 (gf := 34) (lb := #[.pointer (some ⟨w.heap.size + 1 + 1 + 1 + 1, 0, none⟩), .pointer (some ⟨w.heap.size + 1 + 1 + 1, 0, none⟩)]) rfl trivial (enters_of Try.func34 (by kernel_rfl) rfl)
    hst KeepT.trans (fun W l o o' hl hh hc _ => KeepT.putObj o' hh hc) (Below.refl _ _) (fun _ => rfl)
    (fun pre W => (pre = [] ∧ Res3 w.heap.size 0 0 false W) ∧ Below w.heap.size w W)
    (fun c pre W => (c = .ret ∧ ∃ x, pre = [x] ∧ Res3 w.heap.size x.1 x.2 true W) ∧ Below w.heap.size w W)
    (OwnFrom.and (fun s A B row hs hg hr => ⟨hs.1, res3_own _ _ _ _ s A B row hs.2 hg (fun r e => (hr r e).2)⟩) (ownFrom_below (Nat.le_refl _) (by omega)))
    (fun c => OwnFrom.and (fun s A B row hs hg hr => ⟨hs.1, hs.2.elim fun x h => ⟨x, h.1, res3_own _ _ _ _ s A B row h.2 hg (fun r e => (hr r e).2)⟩⟩) (ownFrom_below (Nat.le_refl _) (by omega)))
    ⟨⟨rfl, hR4⟩, hB4⟩
    (fun x => { tmps := #[.pointer (some ⟨b, 0, none⟩), undef, .pointer (some ⟨w.heap.size, 0, none⟩), .pointer (some ⟨w.heap.size + 1, 0, none⟩), .pointer (some ⟨w.heap.size + 1 + 1, 0, none⟩), .int .i64 x.1, .int .i64 x.2, .pointer (some ⟨b, 0, none⟩), .func (.func 34) #[] #[.pointer (some ⟨w.heap.size + 1 + 1 + 1 + 1, 0, none⟩), .pointer (some ⟨w.heap.size + 1 + 1 + 1, 0, none⟩)], .int .i64 x.1, .int .i64 x.2, undef, undef, undef], defers := [] }) ?assign ?body ?done ?stop
  case assign =>
    intro l x W K hK
    simp only [enc2]
    gi_wp2
    exact hK
  case body =>
    rintro l pre x W ⟨⟨rfl, hR⟩, hB⟩ _
    have hS := hR.set x.1 x.2 true
    have c0 := hR.1.cell
    have c1 := hR.2.1.cell
    have c2 := hR.2.2.cell
    have f0 := hR.1.frozen
    have f1 := hR.2.1.frozen
    have f2 := hR.2.2.frozen
    gi_wp2
    exact ⟨((KeepsOthers.setCell _ _ _).trans (KeepsOthers.setCell _ _ _)).trans (KeepsOthers.setCell _ _ _), ⟨rfl, x, rfl, hS⟩,
      ((hB.setCell (p := ⟨w.heap.size, 0, none⟩) (Nat.le_refl _) _).setCell (p := ⟨w.heap.size + 1, 0, none⟩) (by simp) _).setCell (p := ⟨w.heap.size + 1 + 1, 0, none⟩) (by simp; omega) _⟩
  case done =>
    rintro D ys W hD rfl ⟨⟨rfl, hR⟩, hB⟩ hK
    have hR1 : Res3 w.heap.size 0 0 false (W.setCell ⟨w.heap.size, 0, none⟩ (.int .i64 0)).drew := ⟨hR.1.set _, hR.2.1.other (by omega) _, hR.2.2.other (by omega) _⟩
    have hR2 : Res3 w.heap.size 0 0 false ((W.setCell ⟨w.heap.size, 0, none⟩ (.int .i64 0)).setCell ⟨w.heap.size + 1, 0, none⟩ (.int .i64 0)).drew := ⟨hR1.1.other (by omega) _, hR1.2.1.set _, hR1.2.2.other (by omega) _⟩
    have c0 := hR.1.cell
    have c1 := hR.2.1.cell
    have c2 := hR.2.2.cell
    have f0 := hR.1.frozen
    have f1 := hR.2.1.frozen
    have f2 := hR.2.2.frozen
    have d0 := hR1.1.cell
    have d1 := hR1.2.1.cell
    have d2 := hR1.2.2.cell
    have e0 := hR1.1.frozen
    have e1 := hR1.2.1.frozen
    have e2 := hR1.2.2.frozen
    have g0 := hR2.1.cell
    have g1 := hR2.2.1.cell
    have g2 := hR2.2.2.cell
    have i0 := hR2.1.frozen
    have i1 := hR2.2.1.frozen
    have i2 := hR2.2.2.frozen
    have hS := hR.set 0 0 false
    gi_wp2
    gi_region
    all_goals gi_wp2
    have hSd : Res3 w.heap.size 0 0 false (((W.setCell ⟨w.heap.size, 0, none⟩ (.int .i64 0)).setCell ⟨w.heap.size + 1, 0, none⟩ (.int .i64 0)).setCell ⟨w.heap.size + 1 + 1, 0, none⟩ (.bool false)).drew := hS
    have hBd : Below w.heap.size w (((W.setCell ⟨w.heap.size, 0, none⟩ (.int .i64 0)).setCell ⟨w.heap.size + 1, 0, none⟩ (.int .i64 0)).setCell ⟨w.heap.size + 1 + 1, 0, none⟩ (.bool false)).drew :=
      (((hB.setCell (p := ⟨w.heap.size, 0, none⟩) (Nat.le_refl _) _).setCell (p := ⟨w.heap.size + 1, 0, none⟩) (by simp) _).setCell (p := ⟨w.heap.size + 1 + 1, 0, none⟩) (by simp; omega) _).drew
    have hKd : (((W.setCell ⟨w.heap.size, 0, none⟩ (.int .i64 0)).setCell ⟨w.heap.size + 1, 0, none⟩ (.int .i64 0)).setCell ⟨w.heap.size + 1 + 1, 0, none⟩ (.bool false)).drew.heap[D]? = some (.deferred (some [])) :=
      (((KeepsOthers.setCell _ _ _).trans (KeepsOthers.setCell _ _ _)).trans (KeepsOthers.setCell _ _ _)).same D _ hK rfl
    clear hR1 hR2 c0 c1 c2 f0 f1 f2 d0 d1 d2 e0 e1 e2 g0 g1 g2 i0 i1 i2 hS hK hB hR
    generalize (((W.setCell ⟨w.heap.size, 0, none⟩ (.int .i64 0)).setCell ⟨w.heap.size + 1, 0, none⟩ (.int .i64 0)).setCell ⟨w.heap.size + 1 + 1, 0, none⟩ (.bool false)).drew = W5 at hSd hBd hKd ⊢
    refine ⟨by simp, .inl ⟨_, _, rfl, run_takeDeferred hKd, ?_⟩⟩
    have hB2 := hBd.trans (belowK_b (w := w) (Nat.le_refl _) W5 D _ (.deferred none) (by omega) hKd rfl rfl)
    have hR2 := res3_own (β := Unit) _ _ _ _ () _ _ _ hSd (grownBy_putObj' W5 D (.deferred none)) (fun r e => by cases e; exact ⟨_, hKd, rfl⟩)
    have c0 := hR2.1.cell
    have c1 := hR2.2.1.cell
    have c2 := hR2.2.2.cell
    refine ⟨firstR [], ?_, rfl, mod_of_below hB2⟩
    simp [results, Try.f30, go_sem, c0, c1, c2, firstR]
  case stop =>
    rintro D c pre W hD hpre ⟨⟨rfl, x, rfl, hR⟩, hB⟩ hK
    gi_wp2
    refine ⟨by simp, .inl ⟨_, _, rfl, run_takeDeferred hK, ?_⟩⟩
    have hB2 := hB.trans (belowK_b (w := w) (Nat.le_refl _) W D _ (.deferred none) (by omega) hK rfl rfl)
    have hR2 := res3_own (β := Unit) _ _ _ _ () _ _ _ hR (grownBy_putObj' W D (.deferred none)) (fun r e => by cases e; exact ⟨_, hK, rfl⟩)
    have c0 := hR2.1.cell
    have c1 := hR2.2.1.cell
    have c2 := hR2.2.2.cell
    obtain ⟨L', rfl⟩ : ∃ L', L = x :: L' := by
      obtain ⟨t, ht⟩ := hpre
      exact ⟨t, ht.symm⟩
    refine ⟨firstR (x :: L'), ?_, rfl, mod_of_below hB2⟩
    simp [results, Try.f30, go_sem, c0, c1, c2, firstR]

end Go.Proofs.Ytpkapfhfnnfomaa
