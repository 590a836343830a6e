/- The law's 'over': the sequence from a key on against the document's list. -/
import Derived.Test.YtpkapfhfnnfomaaRefDrop
namespace Go.Proofs.Ytpkapfhfnnfomaa
open Go.RowKit Go.Shelf
attribute [local irreducible] Ext
attribute [local go_sem] Oper.semAt_some

theorem drop_place {key : Int} {L : List (Int × Int)} (hr : Rising L) : L.filter (fun x => decide (key ≤ x.1)) = L.drop (place key L) := by
  induction L with
  | nil => rfl
  | cons a L ih =>
    obtain ⟨h1, h2⟩ := hr.cons
    simp only [place, List.filter_cons]
    by_cases h : a.1 < key
    · rw [if_pos h, if_neg (by simp; omega), ih h2]
      rfl
    · rw [if_neg h, if_pos (by simp; omega)]
      simp only [List.drop_zero]
      congr 1
      exact List.filter_eq_self.2 fun x hx => by have := h1 x hx; simp; omega

/-- What a range over one sequence carries along: n, r, the result. -/
def OverI (w : World) (nb rb b : Nat) (q : Int) (W : World) : Prop :=
  (Boxed W nb 3 (.int .i64 q) ∧ Boxed W rb 36 (.pointer (some ⟨b, 0, none⟩)) ∧ Boxed W (rb + 1) 4 (.bool false)) ∧ Below w.heap.size w W

theorem OverI.step {w W : World} {nb rb b : Nat} {q : Int} (h : OverI w nb rb b q W) (hn : w.heap.size ≤ nb) (h1 : nb ≠ rb) (h2 : nb ≠ rb + 1) (q' : Int) : OverI w nb rb b q' (W.setCell ⟨nb, 0, none⟩ (.int .i64 q')) ∧ KeepT W (W.setCell ⟨nb, 0, none⟩ (.int .i64 q')) := by
  obtain ⟨⟨h3, h4, h5⟩, h6⟩ := h
  have hM : Mod (fun k => k = nb) W (W.setCell ⟨nb, 0, none⟩ (.int .i64 q')) := (Mod.refl (fun k => k = nb) W).setCell (p := ⟨nb, 0, none⟩) (.inl rfl) _
  refine ⟨⟨⟨h3.set _, h4.other (Ne.symm h1) _, h5.other (Ne.symm h2) _⟩, h6.setCell (p := ⟨nb, 0, none⟩) hn _⟩, keepT_mod hM ?_⟩
  rintro k rfl
  exact ⟨_, _, h3, by decide⟩

theorem overI_own {β : Type} (w : World) (nb rb b : Nat) (q : β → Int) {B : Nat} (hB : w.heap.size ≤ B) : OwnFrom B (fun s W => OverI w nb rb b (q s) W) := by
  intro s A C row hs hg hr
  have hr' : ∀ r, row = some r → ∃ o : Obj, A.heap[r]? = some o ∧ o.isCells = false := fun r e => (hr r e).2
  obtain ⟨⟨h3, h4, h5⟩, h6⟩ := hs
  exact ⟨⟨boxed_own nb _ (fun s => .int .i64 (q s)) s A C row h3 hg hr', boxed_own (β := β) rb _ (fun _ => _) s A C row h4 hg hr', boxed_own (β := β) (rb + 1) _ (fun _ => _) s A C row h5 hg hr'⟩, ownFrom_below (β := β) (Nat.le_refl _) hB s A C row h6 hg hr⟩

theorem OverI.drewN {w W : World} {nb rb b : Nat} {q : Int} (h : OverI w nb rb b q W) (n : Nat) : OverI w nb rb b q (W.drewN n) :=
  ⟨h.1, ⟨h.2.os, h.2.tape, h.2.output, h.2.size, h.2.block⟩⟩

/-- The document's tree, wherever a world lies beyond. -/
theorem RefAt.later {w W : World} {b : Nat} {kv vv : Value} {L : List (Int × Int)} (h : RefAt w b kv vv L) (hB : Below w.heap.size w W) : RefAt W b kv vv L :=
  h.keep (mod_of_below hB) (fun h => h) (fun _ _ h => h) (fun _ _ h => h)

/-- What a round reads of the document's tree. -/
theorem RefAt.reads {w : World} {b : Nat} {kv vv : Value} {L : List (Int × Int)} (h : RefAt w b kv vv L) {i : Nat} {y : Int × Int} (hy : L[i]? = some y) :
    ∃ gk ck gv cv, w.cell? ⟨b, 0, none⟩ = some (.slice (some ⟨gk, 0, none⟩) L.length ck) ∧ w.cell? ⟨b, 1, none⟩ = some (.slice (some ⟨gv, 0, none⟩) L.length cv) ∧
      w.cell? ⟨gk, i, none⟩ = some (.int .i64 y.1) ∧ w.cell? ⟨gv, i, none⟩ = some (.int .i64 y.2) := by
  have hi := (List.getElem?_eq_some_iff.1 hy).1
  obtain ⟨gk, ck, x0, he, hx, hc, _⟩ := own_cell h.keys hi
  obtain ⟨gv, cv, x1, he', hx', hc', _⟩ := own_cell h.vals hi
  rw [List.getElem?_map, hy] at hx hx'
  obtain rfl : Value.int .i64 y.1 = x0 := by simpa using hx
  obtain rfl : Value.int .i64 y.2 = x1 := by simpa using hx'
  subst he he'
  have c0 := cell_of_heap h.blk 0
  have c1 := cell_of_heap h.blk 1
  simp only [List.getElem?_toArray, List.getElem?_cons_succ, List.getElem?_cons_zero] at c0 c1
  exact ⟨gk, ck, gv, cv, c0, c1, hc, hc'⟩

theorem ko_drewN (W : World) (n : Nat) : KeepsOthers W (W.drewN n) := KeepsOthers.of_grownBy (row := none) ⟨rfl, rfl, rfl, Nat.le_refl _, fun _ _ _ => rfl⟩ (fun j o e => by cases e)

/-- The end of a law: the result is set, the deferred are none; the result's box lies anywhere. -/
theorem ret_at {w W : World} {D rb : Nat} {tmps : Array Value} {fn : Func} {F : Fence} {n : Nat} {bx : Nat} {v : Value} (hr : Boxed W rb 4 v) (hfn : fn.results = #[.cell bx 4])
    (hB : Below w.heap.size w W) (hrb : w.heap.size ≤ rb) (hK : W.heap[D]? = some (.deferred (some []))) (hD : w.heap.size < D) (ht : tmps[bx]? = some (.pointer (some ⟨rb, 0, none⟩)) := by rfl) :
    bodyPostM F n Try.prog fn (fun e w' => e = .returned (.bool true) ∧ Below w.heap.size w w') .ret { tmps := tmps, defers := [{ target := .collected D, args := #[] }] } (W.setCell ⟨rb, 0, none⟩ (.bool true)) := by
  have hr2 : Boxed (W.setCell ⟨rb, 0, none⟩ (.bool true)) rb 4 (.bool true) := hr.set _
  have hB2 : Below w.heap.size w (W.setCell ⟨rb, 0, none⟩ (.bool true)) := hB.setCell (p := ⟨rb, 0, none⟩) hrb _
  have hK2 : (W.setCell ⟨rb, 0, none⟩ (.bool true)).heap[D]? = some (.deferred (some [])) := (KeepsOthers.setCell W ⟨rb, 0, none⟩ (.bool true)).same D _ hK rfl
  generalize (W.setCell ⟨rb, 0, none⟩ (.bool true)) = W2 at hr2 hB2 hK2 ⊢
  refine ⟨by simp, .inl ⟨_, _, rfl, run_takeDeferred hK2, ?_⟩⟩
  have hr3 := boxed_own (β := Unit) rb 4 (fun _ => .bool true) () _ _ _ hr2 (grownBy_putObj' W2 D (.deferred none)) (fun r e => by cases e; exact ⟨_, hK2, rfl⟩)
  have hB3 := hB2.trans (belowK_b (w := w) (Nat.le_refl _) W2 D _ (.deferred none) (by omega) hK2 rfl rfl)
  have c0 := hr3.cell
  refine ⟨.bool true, ?_, rfl, hB3⟩
  simp [results, hfn, go_sem, c0, ht]

set_option maxRecDepth 100000 in
set_option maxHeartbeats 4000000 in
theorem over_any {tb b : Nat} {kv vv : Value} {L : List (Int × Int)} {t : Tr Int} (key : Int) (w : World) (ht : TreeAt w tb t) (hL : t.list = L) (hs : t.sorted) (hr : RefAt w b kv vv L) (hlen : L.length ≤ 1000000) :
    Calls Try.prog 17 #[.pointer (some ⟨tb, 0, none⟩), .pointer (some ⟨b, 0, none⟩), .int .i64 key] w fun e w' => e = .returned (.bool true) ∧ Below w.heap.size w w' := by
  have hrise : Rising L := hL ▸ Tr.sorted_rising hs
  have hD : overL key t = L.drop (place key L) := by rw [overL_filter key hs, hL, drop_place hrise]
  have hpl := place_le key L
  obtain ⟨p, htp, htt⟩ := ht
  have cp := cell_of_heap htp 0
  simp only [List.getElem?_toArray, List.getElem?_cons_zero] at cp
  have hE1 : Ext w ((w.alloc (.cells #[.pointer (some ⟨b, 0, none⟩)] 36)).alloc (.cells #[.bool false] 4)) := ((Ext.refl w).alloc _).alloc _
  have hr1 : RefAt ((w.alloc (.cells #[.pointer (some ⟨b, 0, none⟩)] 36)).alloc (.cells #[.bool false] 4)) b kv vv L := by
    unfold Ext at hE1
    exact hr.keep hE1 (fun h => h) (fun _ _ h => h) (fun _ _ h => h)
  have hfrom := from_any key _ hr1 (by omega)
  have HR := Lib.hid hr
  have HT := Lib.hid htt
  obtain ⟨q0, hq0⟩ : ∃ q0, place key L = q0 := ⟨_, rfl⟩
  rw [hq0] at hfrom hD hpl
  clear hr hr1 htt htp hE1 hL hs
  refine (callsIn_wide (n := 3)).1 ?_
  refine callsIn_of_wp_marks Try.func17 rfl trivial ?_ rfl
  simp only [Try.ntmps17, List.size_toArray, List.length_cons, List.length_nil, Nat.reduceAdd, Nat.reduceSub, Array.replicate_succ, Array.replicate_zero, List.push_toArray, List.append_toArray, List.nil_append, List.cons_append]
  refine wpIn_wide.2 ?_
  go_wp2_with (go_at_call 29; (with_reducible refine hfrom.mono ?_); rintro e w' ⟨rfl, nd, rfl⟩)
  obtain ⟨w3, hw3⟩ : ∃ w3, (((w.alloc (.cells #[.pointer (some ⟨b, 0, none⟩)] 36)).alloc (.cells #[.bool false] 4)).drewN nd).alloc (.cells #[.int .i64 q0] 3) = w3 := ⟨_, rfl⟩
  have hs3 : w3.heap.size = w.heap.size + 3 := by rw [← hw3]; simp
  have hE3 : Ext w w3 := by rw [← hw3]; exact ((((Ext.refl w).alloc _).alloc _).drewN _).alloc _
  have hB3 := hE3.below
  have hO3 : OverI w (w.heap.size + 1 + 1) w.heap.size b q0 w3 := by
    have b0 := Boxed.new w 36 (.pointer (some ⟨b, 0, none⟩))
    have b1 := Boxed.new (w.alloc (.cells #[.pointer (some ⟨b, 0, none⟩)] 36)) 4 (.bool false)
    have b2 := Boxed.new (((w.alloc (.cells #[.pointer (some ⟨b, 0, none⟩)] 36)).alloc (.cells #[.bool false] 4)).drewN nd) 3 (.int .i64 q0)
    have e : (((w.alloc (.cells #[.pointer (some ⟨b, 0, none⟩)] 36)).alloc (.cells #[.bool false] 4)).drewN nd).heap.size = w.heap.size + 1 + 1 := by simp
    rw [World.size_alloc] at b1
    rw [e] at b2
    rw [← hw3] at hB3 ⊢
    exact ⟨⟨b2, (show Boxed (((w.alloc _).alloc _).drewN nd) _ _ _ from b0.alloc _).alloc _, (show Boxed (((w.alloc _).alloc _).drewN nd) _ _ _ from b1).alloc _⟩, hB3⟩
  have cp3 := hE3.cell cp
  have hft := fromT_any key w3 cp3
  rw [hw3]
  clear hw3 cp cp3 hfrom
  refine hft.mono ?_
  rintro e w' ⟨rfl, rfl⟩
  clear hft
  go_wp2_with fail
  refine (wpIn_wide (n := 3)).1 ?_
  obtain ⟨hbs, _, _, hbE⟩ := boxed_facts w3 key p
  have hst := boxed_stops 2 (w := w3) (key := key) (HT.out.ext hE3)
  rw [hD, hs3] at hst
  have hO4 : OverI w (w.heap.size + 1 + 1) w.heap.size b q0 (boxed w3 key p) := ⟨⟨hbE.keep hO3.1.1, hbE.keep hO3.1.2.1, hbE.keep hO3.1.2.2⟩, hO3.2.trans (hbE.below.mono (by omega))⟩
  generalize boxed w3 key p = w4 at hst hbs hbE hO4 ⊢
  clear hbE hO3 hB3 hE3 HT hD
  refine rangeF_ex rfl (by omega) (gf := 34) (lb := #[.pointer (some ⟨w.heap.size + 3 + 1, 0, none⟩), .pointer (some ⟨w.heap.size + 3, 0, none⟩)]) rfl trivial (enters_of Try.func34 (by kernel_rfl) rfl)
    hst KeepT.trans (fun W l o o' hl hh hc _ => KeepT.putObj o' hh hc) (Below.refl _ _) (fun _ => rfl)
    (fun pre W => OverI w (w.heap.size + 1 + 1) w.heap.size b (((q0 + pre.length : Nat) : Int)) W ∧ pre <+: L.drop q0)
    (fun c pre W => c = .ret ∧ ¬ pre <+: L.drop q0)
    (OwnFrom.and (overI_own w (w.heap.size + 1 + 1) w.heap.size b (fun pre : List (Int × Int) => ((q0 + pre.length : Nat) : Int)) (by omega)) (ownFrom_pure _ _))
    (fun c => ownFrom_pure _ (fun pre => c = .ret ∧ ¬ pre <+: L.drop q0))
    ⟨hO4, List.nil_prefix⟩ ?ex ?done ?stop
  case ex =>
    apply Exists.intro
    apply And.intro
    · intro l x W K hK
      simp only [enc2]
      gi_wp2
      exact hK
    · rintro l pre x W ⟨hO, hpre⟩ hlt
      obtain ⟨y, hy⟩ : ∃ y, (L.drop q0)[pre.length]? = some y := ⟨(L.drop q0)[pre.length]'hlt, List.getElem?_eq_getElem hlt⟩
      have hps := prefix_snoc (x := x) hpre hy
      rw [List.getElem?_drop] at hy
      have hi := (List.getElem?_eq_some_iff.1 hy).1
      obtain ⟨gk, ck, gv, cv, r0, r1, r2, r3⟩ := (HR.out.later hO.2).reads hy
      have hst2 := hO.step (by omega) (by omega) (by omega) (((q0 + (pre ++ [x]).length : Nat) : Int))
      have c0 := hO.1.1.cell
      have c1 := hO.1.2.1.cell
      have c2 := hO.1.2.2.cell
      have f0 := hO.1.1.frozen
      have f2 := hO.1.2.2.frozen
      have hiq : q0 + (pre ++ [x]).length = q0 + pre.length + 1 := by simp; omega
      rw [hiq] at hst2
      have HQ := Lib.hid hiq
      obtain ⟨i, hii⟩ : ∃ i, q0 + pre.length = i := ⟨_, rfl⟩
      rw [hii] at hi r2 r3 hst2 c0
      have t1 : decide ((L.length : Int) ≤ (i : Int)) = false := decide_eq_false (by omega)
      have t1' : decide (L.length ≤ i) = false := decide_eq_false (by omega)
      have t2 : (0 : Int) ≤ (i : Int) := by omega
      have t3 : (i : Int) < (L.length : Int) := by omega
      have e1 : IntKind.i64.wrap ((i : Int) + 1) = ((i + 1 : Nat) : Int) := by rw [IntWalk.i64_in _ (by omega)]; rfl
      have HS := Lib.hid hst2
      have HP := Lib.hid hps
      have HO := Lib.hid hO
      have HI := Lib.hid hii
      clear hst2 hps hO hpre hy hlt hiq hii
      by_cases hk : x.1 = y.1
      · have b1 : (x.1 != y.1) = false := by simp [hk]
        by_cases hv : x.2 = y.2
        · have b2 : (x.2 != y.2) = false := by simp [hv]
          have hxy : y = x := Prod.ext hk.symm hv.symm
          have HE := Lib.hid hxy
          clear hxy hk hv
          gi_wp2
          refine wpIn_region_quiet_round rfl (by kernel_rfl) (by kernel_rfl) (by kernel_rfl) ?_
          repeat (gi_big_quiet_step (fail))
          refine wpQuietIn_nil ?_
          rintro _ ⟨nq, rfl⟩
          gi_wp2
          obtain ⟨s1, s2⟩ := (HO.out.drewN nq).step (by omega) (by omega) (by omega) (((q0 + (pre ++ [x]).length : Nat) : Int))
          have hi2 : q0 + (pre ++ [x]).length = i + 1 := by rw [HQ.out, HI.out]
          refine ⟨(ko_drewN W nq).trans (KeepsOthers.setCell _ _ _), ?_, ⟨?_, HP.out.2 HE.out⟩⟩
          · rw [hi2] at s2
            exact KeepT.trans (fun _ _ _ h => h) s2
          · rw [hi2] at s1 ⊢
            exact s1
        · have b2 : (x.2 != y.2) = true := by simpa using hv
          have HE := Lib.hid hv
          clear hk hv
          gi_wp2
          refine wpIn_region_quiet_round rfl (by kernel_rfl) (by kernel_rfl) (by kernel_rfl) ?_
          repeat (gi_big_quiet_step (fail))
          refine wpQuietIn_nil ?_
          rintro _ ⟨nq, rfl⟩
          gi_wp2
          exact ⟨(ko_drewN W nq).trans (KeepsOthers.setCell _ _ _), rfl, fun hp => HE.out (by rw [HP.out.1 hp])⟩
      · have b1 : (x.1 != y.1) = true := by simpa using hk
        have HE := Lib.hid hk
        clear hk
        gi_wp2
        refine wpIn_region_quiet_round rfl (by kernel_rfl) (by kernel_rfl) (by kernel_rfl) ?_
        repeat (gi_big_quiet_step (fail))
        refine wpQuietIn_nil ?_
        rintro _ ⟨nq, rfl⟩
        gi_wp2
        exact ⟨(ko_drewN W nq).trans (KeepsOthers.setCell _ _ _), rfl, fun hp => HE.out (by rw [HP.out.1 hp])⟩
  case done =>
    rintro D ys W hD rfl ⟨hO, _⟩ hK
    have hr := HR.out.later hO.2
    obtain ⟨ko, kc, rfl⟩ := own_slice hr.keys
    have r0 := cell_of_heap hr.blk 0
    simp only [List.getElem?_toArray, List.getElem?_cons_zero] at r0
    have c0 := hO.1.1.cell
    have c1 := hO.1.2.1.cell
    have c2 := hO.1.2.2.cell
    have f2 := hO.1.2.2.frozen
    have hql : q0 + (L.drop q0).length = L.length := by simp; omega
    rw [hql] at c0
    have HO := Lib.hid hO
    have HK := Lib.hid hK
    clear hO hK hr hst hql
    go_wp2
    go_still_tail 7, (by kernel_rfl)
    change wpList _ _ _ _ _ W.drew
    go_wp2
    exact ret_at (W := W.drew) (rb := w.heap.size + 1) HO.out.1.2.2 rfl HO.out.2.drew (by omega) HK.out (by omega)
  case stop =>
    rintro D c pre W hD hpre ⟨_, h⟩ _
    exact absurd hpre h

end Go.Proofs.Ytpkapfhfnnfomaa
