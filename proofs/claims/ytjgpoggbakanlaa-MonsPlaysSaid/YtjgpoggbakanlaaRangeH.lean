/- A range over a function whose second variable is boxed anew in each round: the frame of a round found by the walk itself. -/
import Derived.Test.YtjgpoggbakanlaaRangeX
import Derived.RangeFuncNested
namespace Go.Proofs.Ytjgpoggbakanlaa
open Go.RowKit Go.Shelf

theorem rangeH_ex {F : Fence} {n : Nat} {P : Program} {α : Type} {g : Operand} {ps : Array Tmp} {assign body : Code} {Q : Exit → Act → World → Prop} {a : Act} {w : World}
    (hro : F.round = none) (h1 : 1 ≤ n) {gf : Nat} {lb : Array Value} (hg : a.eval g = .func (.func gf) #[] lb) (hFg : F.fn gf) (eg : ∀ args w, (callFunc gf args).run P w = .ok (.enter gf args) w)
    {encs : α → Array Value} {Kp : World → World → Prop} {S Sp : List α → Prop} {N : Nat} {w0 : World} (hseq : SeqStopsK F (n - 1) P gf lb encs Kp S Sp N w0)
    (hKt : ∀ {A B C : World}, Kp A B → Kp B C → Kp A C) (hKb : ∀ (W : World) (l : Nat) (o o' : Obj), w.heap.size ≤ l → W.heap[l]? = some o → o.isCells = false → o.isWalk = false → Kp W (W.putObj l o')) (hb0 : Below w0.heap.size w0 w) (hps : ∀ x, (encs x).size = ps.size)
    (hKa : ∀ (W : World) (o : Obj), Kp W (W.alloc o)) (bc : α → Array Value) (BT : TypeId)
    (I : List α → World → Prop) (Ix : Code → List α → World → Prop) (hI : OwnFrom w.heap.size I) (hIx : ∀ c, OwnFrom w.heap.size (Ix c)) (hIs : ∀ pre W, I pre W → w.heap.size ≤ W.heap.size) (h0 : I [] w)
    (hex : ∃ A : Nat → α → Act, (∀ (l : Nat) (x : α) (W : World) (K : Act → World → Prop), K (A W.heap.size x) (W.alloc (.cells (bc x) BT)) →
      assign.wpIn (F.inRound l) (n - 1 - 1) P (Exit.then K (fun _ _ _ => False)) { tmps := (ps.zip (encs x)).foldl (fun t (p, v) => t.setIfInBounds p v) a.tmps, defers := [] } W) ∧
      (∀ (l : Nat) (pre : List α) (x : α) (bk : Nat) (W : World), w.heap.size ≤ bk → I pre W → W.heap[bk]? = some (.cells (bc x) BT (0, 0)) → pre.length < N → body.wpIn (F.inRound l) (n - 1 - 1) P (ownPostG w.heap.size Kp I Ix (pre ++ [x]) W) (A bk x) W))
    (hdone : ∀ (D : Nat) (xs : List α) (W : World), w.heap.size ≤ D → S xs → I xs W → W.heap[D]? = some (.deferred (some [])) → Q .normal { a with defers := { target := .collected D, args := #[] } :: a.defers } W)
    (hstop : ∀ (D : Nat) (c : Code) (pre : List α) (W : World), w.heap.size ≤ D → Sp pre → Ix c pre W → W.heap[D]? = some (.deferred (some [])) → c.wpIn F n P Q { a with defers := { target := .collected D, args := #[] } :: a.defers } W) :
    (Code.rangeFunc g ps assign body).wpIn F n P Q a w := by
  obtain ⟨A, ha, hb⟩ := hex
  refine wpIn_rangeFunc_ownH hro h1 hg hFg eg hseq hKt hKb hb0 hps I Ix hI hIx h0 (fun x a' W => ∃ bk, a' = A bk x ∧ w.heap.size ≤ bk ∧ W.heap[bk]? = some (.cells (bc x) BT (0, 0))) ?_ ?_ ?_ hdone hstop
  · rintro x a' s X Y row ⟨bk, e, hbk, hh⟩ hgr hr
    refine ⟨bk, e, hbk, (hgr.block bk ((Array.getElem?_eq_some_iff.1 hh).1) (fun e' => ?_)).trans hh⟩
    obtain ⟨o, ho, hc⟩ := (hr bk e'.symm).2
    rw [hh] at ho
    injection ho with ho
    subst ho
    cases hc
  · intro l pre x W K hi hK
    refine ha l x W K (hK _ _ ?_ (hKa _ _) (hI.alloc _ hi) ⟨W.heap.size, rfl, hIs pre W hi, World.alloc_heap_new W _⟩)
    exact KeepsOthers.from (KeepsOthers.of_grownBy (row := none) (World.grownBy_alloc W _ none) (fun j o e => by cases e)) _
  · rintro l pre x a' W _ _ hi ⟨bk, rfl, hbk, hh⟩ hl
    exact hb l pre x bk W hbk hi hh hl

end Go.Proofs.Ytjgpoggbakanlaa
