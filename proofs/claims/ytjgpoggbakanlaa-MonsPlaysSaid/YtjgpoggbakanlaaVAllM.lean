/- What a tree of the monitors' table holds, in a new row. -/
import Derived.Test.YtjgpoggbakanlaaRow3
import Derived.Test.YtjgpoggbakanlaaRangeH
import Derived.RangeFuncBox
namespace Go.Proofs.Ytjgpoggbakanlaa
open Go.RowKit Go.Shelf
attribute [local irreducible] Ext
attribute [local go_sem] Oper.semAt_some

theorem keepT_mod {W W' : World} {F : Nat → Prop} (hM : Mod F W W') (hF : ∀ k, F k → ∃ cs T, W.heap[k]? = some (.cells cs T (0, 0)) ∧ T ≠ 104) : KeepT W W' := by
  intro k cs fr hk
  refine hM.keep hk (fun hf => ?_)
  obtain ⟨cs', T, h, hT⟩ := hF k hf
  rw [hk] at h
  injection h with h
  injection h with _ e
  exact hT e.symm

theorem cells_new (w : World) (cs : List Value) (t : TypeId) : ∀ j u, cs[j]? = some u → (w.alloc (.cells cs.toArray t)).cell? ((⟨w.heap.size, 0, none⟩ : Addr).add j) = some u := by
  intro j u hu
  have h := cell_of_heap (heap_alloc_new w (.cells cs.toArray t))
  have e : (⟨w.heap.size, 0, none⟩ : Addr).add j = ⟨w.heap.size, j, none⟩ := by unfold Addr.add; split <;> simp_all
  rw [e, h j, ← hu]
  simp

/-- A round: one more stands behind. -/
theorem all_step {W w1 : World} {n₀ ab k m : Nat} {v v' : Value} {xs ys : List Value} {tmp : Obj} (hv : Boxed W ab 39 v) (hrow : W.ownsRow n₀ 31 3 v k xs)
    (hn₀ : n₀ ≤ W.heap.size) (hab : n₀ ≤ ab) (hown' : w1.ownsRow n₀ 31 3 v' m ys) (hgrow : (W.alloc tmp).grownBy w1 v.ownBlock) :
    Boxed w1 ab 39 v ∧ KeepsOthers W (w1.setCell ⟨ab, 0, none⟩ v') ∧ KeepT W (w1.setCell ⟨ab, 0, none⟩ v') ∧ Boxed (w1.setCell ⟨ab, 0, none⟩ v') ab 39 v' ∧
      (w1.setCell ⟨ab, 0, none⟩ v').ownsRow n₀ 31 3 v' m ys ∧ Below n₀ W (w1.setCell ⟨ab, 0, none⟩ v') ∧ W.heap.size ≤ (w1.setCell ⟨ab, 0, none⟩ v').heap.size := by
  obtain ⟨h1, h2, h3, h4, h5⟩ := hv.appended (by decide) hrow hn₀ hab hown' hgrow
  have hM : Mod (fun k => k = ab ∨ some k = v.ownBlock) W (w1.setCell ⟨ab, 0, none⟩ v') :=
    (((Mod.refl _ W).alloc tmp).grown hgrow (fun k e => .inl (.inr e.symm))).setCell (p := ⟨ab, 0, none⟩) (.inl (.inl rfl)) _
  refine ⟨h1, h4, keepT_mod hM ?_, h2, h3, h5, hM.size⟩
  rintro k (rfl | hk)
  · exact ⟨_, _, hv, by decide⟩
  · obtain ⟨cur, hc⟩ := own_blk hrow hk.symm
    exact ⟨_, _, hc, by decide⟩

set_option maxRecDepth 100000 in
set_option maxHeartbeats 4000000 in
theorem mall_any {tb : Nat} {t : Tr (Int × Int × ByteArray)} (w : World) (ht : TreeAt w tb t) (hs : t.sorted) (hm : t.list.length ≤ 1000000) (hk : ∀ x ∈ t.list, -9223372036854775808 ≤ x.1) :
    Calls Try.prog 34 #[.pointer (some ⟨tb, 0, none⟩)] w fun e w' => ∃ v, e = .returned v ∧ Row3 w' v (t.list.map Prod.snd) ∧ Ext w w' ∧ ∀ k, v.ownBlock = some k → w.heap.size ≤ k := by
  obtain ⟨p, hp, htt⟩ := ht
  have cp := cell_of_heap hp 0
  simp only [List.getElem?_toArray, List.getElem?_cons_zero] at cp
  have cp1 := cell_kept cp (World.grownBy_alloc _ (.cells #[.slice none 0 0] 39) none) (fun r e => by cases e)
  clear hp cp
  refine (callsIn_wide (n := 3)).1 ?_
  refine callsIn_of_wp_marks Try.func34 rfl trivial ?_ rfl
  simp only [Try.ntmps34, List.size_toArray, List.length_cons, List.length_nil, Nat.reduceAdd, Nat.reduceSub, Array.replicate_succ, Array.replicate_zero, List.push_toArray, List.append_toArray, List.nil_append, List.cons_append]
  refine wpIn_wide.2 ?_
  go_wp2_with fail
  refine (allT_any _ cp1).mono ?_
  rintro e w' ⟨rfl, rfl⟩
  clear cp1
  go_wp2_with fail
  refine (wpIn_wide (n := 3)).1 ?_
  obtain ⟨w3, hw3⟩ : ∃ w3, w.alloc (.cells #[.slice none 0 0] 39) = w3 := ⟨_, rfl⟩
  have hs3 : w3.heap.size = w.heap.size + 1 := by rw [← hw3]; simp
  have hE3 : Ext w w3 := by rw [← hw3]; exact (Ext.refl w).alloc _
  have ha3 : Boxed w3 w.heap.size 39 (.slice none 0 0) := by rw [← hw3]; exact Boxed.new w 39 (.slice none 0 0)
  rw [hw3]
  clear hw3
  have hL : overL (-9223372036854775808) t = t.list := overL_all hs hk
  obtain ⟨hbs, _, _, hbE⟩ := boxed_facts w3 (-9223372036854775808) p
  have hst := boxed_stops 2 (w := w3) (key := -9223372036854775808) (htt.ext hE3)
  rw [hL, hs3] at hst
  obtain ⟨w4, hw4⟩ : ∃ w4, boxed w3 (-9223372036854775808) p = w4 := ⟨_, rfl⟩
  rw [hw4] at hst hbs hbE ⊢
  have ha4 := hbE.keep ha3
  have hB4 : Below w.heap.size w w4 := (hE3.trans hbE).below
  generalize hLL : t.list = L at hst hm hk hL
  clear hw4 hbE hE3 ha3 hL htt hs hk
  have HI3 := Lib.hid (info_parts info3)
  refine rangeH_ex rfl (by omega) (gf := 66) (lb := #[.pointer (some ⟨w.heap.size + 1 + 1, 0, none⟩), .pointer (some ⟨w.heap.size + 1, 0, none⟩)]) rfl trivial (enters_of Try.func66 (by kernel_rfl) rfl)
    hst KeepT.trans (fun W l o o' hl hh hc _ => KeepT.putObj o' hh hc) (Below.refl _ _) (fun _ => rfl) KeepT.alloc (fun x => #[.int .i64 x.2.1, .int .i64 x.2.2.1, .string x.2.2.2]) 31
    (fun pre W => (∃ v, Boxed W w.heap.size 39 v ∧ W.ownsRow w.heap.size 31 3 v pre.length (fl (pre.map Prod.snd)) ∧ True) ∧ (Below w.heap.size w W ∧ w4.heap.size ≤ W.heap.size))
    (fun _ _ _ => False)
    (OwnFrom.and (Own.from (holdsRow_own w.heap.size w.heap.size 39 31 3 (fun pre : List (Int × (Int × Int × ByteArray)) => pre.length) (fun pre => fl (pre.map Prod.snd)) (fun _ _ => True)) _) (OwnFrom.and (ownFrom_below (Nat.le_refl _) (by omega)) (fun s A B row hs hg hr => Nat.le_trans hs hg.size)))
    (fun c => ownFrom_pure _ (fun _ => False))
    (fun pre W h => h.2.2) ⟨⟨_, ha4, World.ownsRow_nil _ _ _ _, trivial⟩, hB4, Nat.le_refl _⟩ ?ex ?done ?stop
  case ex =>
    apply Exists.intro
    apply And.intro
    · intro l x W Kk hK
      simp only [enc2]
      gi_wp2
      generalize W.heap.size = bk at hK ⊢
      exact hK
    · rintro l pre x bk W hbk ⟨⟨v, hv, hrow, _⟩, hB, hsz⟩ hx hlen
      have d0 := hv.cell
      have f0 := hv.frozen
      obtain ⟨x0, x1, x2, _, _, _⟩ := Box3.cells (x := x.2) hx
      have hpl : pre.length < 1000000 := by omega
      have hWs : w.heap.size ≤ W.heap.size := by omega
      clear hlen hx
      obtain ⟨i0, hi, hz0, hz1, hz2⟩ := HI3.out
      gi_wp2_with (gi_at_builtin; refine wpListIn_append_own _ rfl _ _ 39 rfl w.heap.size 31 i0 (.agg #[.int .i64 0, .int .i64 0, .string ⟨#[]⟩]) 3 32 Try.underlying39 hi hz0 hz1 hz2 rfl (by decide) _ _ _ rfl (hrow.alloc _) ⟨W.heap.size, 0, none⟩ 1 1 [.int .i64 x.2.1, .int .i64 x.2.2.1, .string x.2.2.2] rfl rfl (cells_new _ _ _) (by simp [Value.oneCell']) (by simp only [maxLen]; omega) (by omega) (by simp; omega) ?_; intro v' w1 hown' hgrow _; obtain ⟨so', sc', rfl⟩ := own_slice hown'; obtain ⟨hv1, hK1, hk1, hv2, hr2, hB2, hs2⟩ := all_step hv hrow hWs (Nat.le_refl _) hown' hgrow; have hc1 := hv1.cell; have hf1 := hv1.frozen)
      refine ⟨hK1.from _, hk1, ⟨_, hv2, ?_, trivial⟩, hB.trans (hB2.mono (Nat.le_refl _)), by omega⟩
      rw [List.map_append, fl_append]
      simpa [fl] using hr2
  case done =>
    rintro D ys W hD rfl ⟨⟨v, hv, hrow, _⟩, hB, _⟩ hK
    have d0 := hv.cell
    have HK := Lib.hid hK
    have HR := Lib.hid hrow
    have HB := Lib.hid hB
    clear hK hrow hB hst
    go_wp2_with fail
    refine ⟨by simp, .inl ⟨_, _, rfl, run_takeDeferred HK.out, ?_⟩⟩
    have hB2 := HB.out.trans (belowK_b (w := w) (Nat.le_refl _) W D _ (.deferred none) (by omega) HK.out rfl rfl)
    have hR2 := holdsRow_own (β := Unit) w.heap.size w.heap.size 39 31 3 (fun _ => ys.length) (fun _ => fl (ys.map Prod.snd)) (fun _ v' => v' = v) () W _ _ ⟨v, hv, HR.out, rfl⟩ (grownBy_putObj' W D (.deferred none)) (fun r e => by cases e; exact ⟨_, HK.out, rfl⟩)
    obtain ⟨v', _, hr3, rfl⟩ := hR2
    refine ⟨v', ?_, v', rfl, ?_, ext_of_below hB2, fun k hk => own_base' hr3 hk⟩
    · simp [results, Try.f34, go_sem]
    · have := own_zero hr3
      unfold Row3
      rw [hLL, List.length_map]
      exact this
  case stop =>
    rintro D c pre W hD hpre h
    exact h.elim

end Go.Proofs.Ytjgpoggbakanlaa
