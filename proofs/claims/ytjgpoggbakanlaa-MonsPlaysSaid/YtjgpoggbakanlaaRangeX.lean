/- A range over a function, the assignment's frame found by the walk itself. -/
import Derived.Test.YtjgpoggbakanlaaProg
import Derived.RangeFuncFrom
import Derived.RangeFuncNested
import Derived.RangeFuncBound
import Derived.RangeFuncLeaves
import Derived.Shelf.Abstract
import Derived.WalkKit
import Derived.OwnWalkIn
import Derived.TacticsInMore
import Derived.Sort.QuietIn
namespace Go.Proofs.Ytjgpoggbakanlaa
open Go.RowKit Go.Shelf

theorem rangeF_ex {F : Fence} {n : Nat} {P : Program} {α : Type} {g : Operand} {ps : Array Tmp} {assign body : Code} {Q : Exit → Act → World → Prop} {a : Act} {w : World}
    (hro : F.round = none) (h1 : 1 ≤ n) {gf : Nat} {lb : Array Value} (hg : a.eval g = .func (.func gf) #[] lb) (hFg : F.fn gf) (eg : ∀ args w, (callFunc gf args).run P w = .ok (.enter gf args) w)
    {encs : α → Array Value} {Kp : World → World → Prop} {S Sp : List α → Prop} {N : Nat} {w0 : World} (hseq : SeqStopsK F (n - 1) P gf lb encs Kp S Sp N w0)
    (hKt : ∀ {A B C : World}, Kp A B → Kp B C → Kp A C) (hKb : ∀ (W : World) (l : Nat) (o o' : Obj), w.heap.size ≤ l → W.heap[l]? = some o → o.isCells = false → o.isWalk = false → Kp W (W.putObj l o')) (hb0 : Below w0.heap.size w0 w) (hps : ∀ x, (encs x).size = ps.size)
    (I : List α → World → Prop) (Ix : Code → List α → World → Prop) (hI : OwnFrom w.heap.size I) (hIx : ∀ c, OwnFrom w.heap.size (Ix c)) (h0 : I [] w)
    (hex : ∃ a₁ : α → Act, (∀ (l : Nat) (x : α) (W : World) (K : Act → World → Prop), K (a₁ x) W →
      assign.wpIn (F.inRound l) (n - 1 - 1) P (Exit.then K (fun _ _ _ => False)) { tmps := (ps.zip (encs x)).foldl (fun t (p, v) => t.setIfInBounds p v) a.tmps, defers := [] } W) ∧
      (∀ (l : Nat) (pre : List α) (x : α) (W : World), I pre W → pre.length < N → body.wpIn (F.inRound l) (n - 1 - 1) P (ownPostK Kp I Ix (pre ++ [x]) W) (a₁ x) W))
    (hdone : ∀ (D : Nat) (xs : List α) (W : World), w.heap.size ≤ D → S xs → I xs W → W.heap[D]? = some (.deferred (some [])) → Q .normal { a with defers := { target := .collected D, args := #[] } :: a.defers } W)
    (hstop : ∀ (D : Nat) (c : Code) (pre : List α) (W : World), w.heap.size ≤ D → Sp pre → Ix c pre W → W.heap[D]? = some (.deferred (some [])) → c.wpIn F n P Q { a with defers := { target := .collected D, args := #[] } :: a.defers } W) :
    (Code.rangeFunc g ps assign body).wpIn F n P Q a w := by
  obtain ⟨a₁, ha, hb⟩ := hex
  exact wpIn_rangeFunc_ownF hro h1 hg hFg eg hseq hKt hKb hb0 hps I Ix hI hIx h0 a₁ ha hb hdone hstop

/-- No operation is a defer statement. -/
def noDefer (l : List Oper) : Bool := l.all fun o => match o.op with | .defer _ => false | _ => true

/-- An operation that is no defer statement does in a round what it does elsewhere. -/
theorem wpOpIn_inRound {F : Fence} {n : Nat} {P : Program} {ops : List Oper} {Q : Exit → Act → World → Prop} {i : Nat} {K : Act → World → Prop} {a : Act} {w : World} (l : Nat) (hro : F.round = none) (hnd : noDefer ops = true)
    (h : wpOpIn F n P ops.toArray Q i K a w) : wpOpIn (F.inRound l) n P ops.toArray Q i K a w := by
  unfold wpOpIn at h ⊢
  split
  · rename_i ho
    simp only [ho] at h
    exact h
  · rename_i o ho
    simp only [ho] at h
    have hno : ∀ c, o.op ≠ .defer c := by
      intro c hc
      have hm : o ∈ ops := by
        rw [List.getElem?_toArray] at ho
        exact List.mem_of_getElem? ho
      have := List.all_eq_true.1 hnd o hm
      rw [hc] at this
      cases this
    split
    · rename_i hw
      simp only [hw, if_true] at h
      unfold Oper.wpIn at h ⊢
      rw [hro, Oper.semAt_none] at h
      rw [Fence.inRound_round, Oper.semAt_some l _ _ hno]
      refine ⟨h.1, ?_⟩
      have h2 := h.2
      cases hr : (execOp a.eval o).run P w with
      | ok x w' =>
        rw [hr] at h2
        cases x <;> first | exact h2 | (exact h2.elim)
      | halt x w' =>
        rw [hr] at h2
        cases x <;> first | exact h2 | (exact h2.elim)
    · rename_i hw
      simp only [hw] at h
      exact h

theorem wpAnyIn_inRound {F : Fence} {n : Nat} {P : Program} {ops : List Oper} {md : Region.Mode} {Q : Exit → Act → World → Prop} (l : Nat) (hro : F.round = none) (hnd : noDefer ops = true) :
    ∀ (fuel : Nat) (listed : Array Bool) (a : Act) (w : World), wpAnyIn F n P md ops.toArray Q fuel listed a w → wpAnyIn (F.inRound l) n P md ops.toArray Q fuel listed a w
  | 0, _, _, _, h => h
  | fuel + 1, _, _, _, h => ⟨h.1, fun i hi => wpOpIn_inRound l hro hnd (wpOpIn_mono (fun a' w' h' => wpAnyIn_inRound l hro hnd fuel _ a' w' h') (h.2 i hi))⟩

/-- A region in a round that draws its order: as it goes elsewhere. -/
theorem wpIn_region_round {F : Fence} {n : Nat} {P : Program} {id : Nat} {ops : List Oper} {Q : Exit → Act → World → Prop} {a : Act} {w : World} (l : Nat) (hro : F.round = none) (hm : P.follows .mixedOrders = true) (hnd : noDefer ops = true)
    (h : wpAnyIn F n P .any ops.toArray Q ops.toArray.size (Array.replicate ops.toArray.size false) a { w with drawn := w.drawn + 1 }) : (Code.region id ops.toArray true).wpIn (F.inRound l) n P Q a w :=
  wpIn_region_any hm (wpAnyIn_inRound l hro hnd _ _ _ _ h)

/-- One walk of the lexical order, in a round. -/
theorem wpIn_region_quiet_round {F : Fence} {n : Nat} {P : Program} {id : Nat} {ops : List Oper} {Q : Exit → Act → World → Prop} {a : Act} {w : World} {l : Nat} (hro : F.round = none) (hm : P.follows .mixedOrders = true) (hB : Region.lexB .any ops.toArray = true) (hnd : noDefer ops = true)
    (h : wpQuietIn F n P ops.toArray (fun w' => ∃ n, w' = w.drewN n) (fun a' => ∀ w', (∃ n, w' = w.drewN n) → Q .normal a' w') ops a) : (Code.region id ops.toArray true).wpIn (F.inRound l) n P Q a w := by
  simp only [Region.lexB, Bool.and_eq_true] at hB
  refine wpIn_region_round l hro hm hnd (wpAnyIn_of_quiet (C := fun w' => ∃ n, w' = w.drewN n) (Q := fun a' => ∀ w', (∃ n, w' = w.drewN n) → Q .normal a' w') hro (fun _ w' hw' h => h w' hw') _ _ _ _ ⟨1, rfl⟩ ?_)
  have := wpAnyQIn_lex (F := F) (n := n) (P := P) (C := fun w' => ∃ n, w' = w.drewN n) (Q := fun a' => ∀ w', (∃ n, w' = w.drewN n) → Q .normal a' w') (md := .any) hB.1 ops 0 (Array.replicate ops.toArray.size false) a (by simp) (by simpa using hB.2) h
  simpa using this

/-- A piece that ends as it should and no other way: the frame may turn ahead of what could panic. -/
def onlyNormal (Q : Exit → Act → World → Prop) : Exit → Act → World → Prop
  | .normal, a, w => Q .normal a w
  | _, _, _ => False

theorem onlyNormal_le {Q : Exit → Act → World → Prop} (e : Exit) (a : Act) (w : World) (h : onlyNormal Q e a w) : Q e a w := by
  cases e with
  | normal => exact h
  | _ => exact h.elim

theorem wp_only {P : Program} {c : Code} {Q : Exit → Act → World → Prop} {a : Act} {w : World} (h : c.wp P (onlyNormal Q) a w) : c.wp P Q a w := wp_mono h onlyNormal_le
theorem wpIn_only {F : Fence} {n : Nat} {P : Program} {c : Code} {Q : Exit → Act → World → Prop} {a : Act} {w : World} (h : c.wpIn F n P (onlyNormal Q) a w) : c.wpIn F n P Q a w := wpIn_mono h onlyNormal_le

end Go.Proofs.Ytjgpoggbakanlaa
