/- The sequences over a tree: the closure of From, From, All; First. -/
import Derived.Test.YtjgpoggbakanlaaVTreeIter
namespace Go.Proofs.Ytjgpoggbakanlaa
open Go.RowKit Go.Shelf
attribute [local irreducible] Ext
attribute [local go_sem] Oper.semAt_some

theorem KeepT.of_below {w W : World} (h : Below w.heap.size w W) : KeepT w W := fun k _ _ hk => (h.block k (heap_lt hk)).trans hk

set_option maxHeartbeats 1000000 in
/-- What From tells goes over the tree as it was. -/
theorem from_stops (n : Nat) {Bt Bk : Nat} {key : Int} {p0 : Option Addr} {T : Tr (Int × Int × ByteArray)} {w : World} (hc : w.cell? ⟨Bt, 0, none⟩ = some (.pointer p0)) (hk : w.cell? ⟨Bk, 0, none⟩ = some (.int .i64 key)) (hT : IsTree w p0 T) :
    SeqStopsK Fence.wide n Try.prog 66 #[.pointer (some ⟨Bt, 0, none⟩), .pointer (some ⟨Bk, 0, none⟩)] enc2 KeepT (fun ys => ys = overL key T) (fun pre => pre <+: overL key T) (overL key T).length w := by
  intro l J Jx W hW hJ hJx hY h0
  have hBt : Bt < w.heap.size := World.block_lt_of_cell? _ _ hc
  have hBk : Bk < w.heap.size := World.block_lt_of_cell? _ _ hk
  have d0 : W.cell? ⟨Bt, 0, none⟩ = some (.pointer p0) := (hW.cell (p := ⟨Bt, 0, none⟩) hBt).trans hc
  have d1 : W.cell? ⟨Bk, 0, none⟩ = some (.int .i64 key) := (hW.cell (p := ⟨Bk, 0, none⟩) hBk).trans hk
  have hp := over_in Fence.wide rfl trivial rfl l (overL key T).length key J Jx (fun pre W h => hJ pre W W.drew none h ⟨rfl, rfl, rfl, Nat.le_refl _, fun _ _ _ => rfl⟩ (fun r e => by cases e))
    (fun m pre x W1 hj hl => YieldAt.anyDepth rfl m (hY pre x W1 hj hl)) T (n - 1) p0 [] W (hT.keepT (KeepT.of_below hW)) h0 (by simp)
  clear hY hT hc hk hJ hJx hW
  refine callsIn_of_wp Try.func66 rfl trivial ?_ rfl
  simp only [Try.ntmps66, List.size_toArray, List.length_cons, List.length_nil, Nat.reduceAdd, Nat.reduceSub, Array.replicate_succ, Array.replicate_zero, List.push_toArray, List.append_toArray, List.nil_append, List.cons_append]
  gi_wp2_with (refine ⟨trivial, fun h => (by cases h), ?_⟩; gi_at_call 67; (with_reducible refine hp.mono ?_); clear hp; rintro e W1 (⟨rfl, hJ1, _⟩ | ⟨rfl, q, hq, hx⟩))
  · go_end0
    exact ⟨⟨_, rfl⟩, .inl ⟨_, rfl, by simpa using hJ1⟩⟩
  · go_end0
    exact ⟨⟨_, rfl⟩, .inr ⟨q, hq, by simpa using hx⟩⟩

/-- The two boxes that From makes. -/
def boxed (w : World) (key : Int) (p : Option Addr) : World := (w.alloc (.cells #[.int .i64 key] 3)).alloc (.cells #[.pointer p] 83)

set_option maxHeartbeats 1000000 in
theorem fromT_any {b : Nat} {p : Option Addr} (key : Int) (w : World) (hb : w.cell? ⟨b, 0, none⟩ = some (.pointer p)) :
    Calls Try.prog 56 #[.pointer (some ⟨b, 0, none⟩), .int .i64 key] w fun e w' =>
      e = .returned (.func (.func 66) #[] #[.pointer (some ⟨w.heap.size + 1, 0, none⟩), .pointer (some ⟨w.heap.size, 0, none⟩)]) ∧ w' = boxed w key p := by
  have hlt := World.block_lt_of_cell? _ _ hb
  have hb2 := cell_kept hb (World.grownBy_alloc w (.cells #[.int .i64 key] 3) none) (fun r e => by cases e)
  go_enter Try.func56, Try.ntmps56
  go_wp2_with fail
  go_ret
  exact ⟨rfl, rfl⟩

set_option maxHeartbeats 1000000 in
theorem allT_any {b : Nat} {p : Option Addr} (w : World) (hb : w.cell? ⟨b, 0, none⟩ = some (.pointer p)) :
    Calls Try.prog 47 #[.pointer (some ⟨b, 0, none⟩)] w fun e w' =>
      e = .returned (.func (.func 66) #[] #[.pointer (some ⟨w.heap.size + 1, 0, none⟩), .pointer (some ⟨w.heap.size, 0, none⟩)]) ∧ w' = boxed w (-9223372036854775808) p := by
  have h := fromT_any (-9223372036854775808) w hb
  go_enter Try.func47, Try.ntmps47
  go_wp2_with (go_at_call 56; (with_reducible refine h.mono ?_); rintro e w' ⟨rfl, rfl⟩)
  go_ret
  exact ⟨rfl, rfl⟩

theorem boxed_facts (w : World) (key : Int) (p : Option Addr) : (boxed w key p).heap.size = w.heap.size + 2 ∧ (boxed w key p).heap[w.heap.size]? = some (.cells #[.int .i64 key] 3 (0, 0)) ∧
    (boxed w key p).heap[w.heap.size + 1]? = some (.cells #[.pointer p] 83 (0, 0)) ∧ Ext w (boxed w key p) := by
  have hE : Ext w (boxed w key p) := ((Ext.refl w).alloc _).alloc _
  refine ⟨by simp [boxed], ?_, ?_, hE⟩
  · exact (Below.heap_alloc _ _ _ (by simp)).trans (heap_alloc_new w _)
  · have := heap_alloc_new (w.alloc (.cells #[.int .i64 key] 3)) (.cells #[.pointer p] 83)
    rw [World.size_alloc] at this
    exact this

/-- From's boxes, ready for the range. -/
theorem boxed_stops (n : Nat) {w : World} {key : Int} {p : Option Addr} {T : Tr (Int × Int × ByteArray)} (hT : IsTree w p T) :
    SeqStopsK Fence.wide n Try.prog 66 #[.pointer (some ⟨w.heap.size + 1, 0, none⟩), .pointer (some ⟨w.heap.size, 0, none⟩)] enc2 KeepT (fun ys => ys = overL key T) (fun pre => pre <+: overL key T) (overL key T).length (boxed w key p) := by
  obtain ⟨_, h1, h2, h3⟩ := boxed_facts w key p
  exact from_stops n (by simp [cell_of_heap h2]) (by simp [cell_of_heap h1]) (hT.ext h3)

end Go.Proofs.Ytjgpoggbakanlaa
