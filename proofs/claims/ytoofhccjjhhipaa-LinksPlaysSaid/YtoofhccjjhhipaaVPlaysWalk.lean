/- LinksPlays' walk. -/
import Derived.Test.YtoofhccjjhhipaaVDeafWalk
import Derived.Test.YtoofhccjjhhipaaVSame
import Derived.Test.YtoofhccjjhhipaaVAll
import Derived.Deep.DeepCutAuto
import Derived.Deep.CutRange
import Derived.Deep.CutBlock
namespace Go.Proofs.Ytoofhccjjhhipaa
open Go.RowKit
attribute [local irreducible] Ext

theorem lall_any {lb tb : Nat} {K : List (Int × (Int × Int × Int))} {ids : Int} (w : World) (h : LT w lb tb K ids) (hm : K.length ≤ 1000000) (hk : ∀ x ∈ K, -9223372036854775808 ≤ x.1) :
    Calls Try.prog 16 #[.pointer (some ⟨lb, 0, none⟩)] w fun e w' => ∃ v, e = .returned v ∧ Row3 w' v (K.map Prod.snd) ∧ Ext w w' ∧ ∀ k, v.ownBlock = some k → w.heap.size ≤ k := by
  obtain ⟨t, ht, hs, rfl⟩ := h.tree
  exact lall_raw w h.blk ht hs hm hk

theorem tr_get {W w : World} {lb tb rb : Nat} {Kt Kr : List (Int × (Int × Int × Int))} {it ir : Int} (h : Two W w lb tb rb Kt it Kr ir) (pid : Int) (hm : Kr.length ≤ 1000000) (hr : Rising Kr) :
    Calls Try.prog 14 #[.pointer (some ⟨rb, 0, none⟩), .int .i64 pid] w fun e w' => e = .returned (.tuple #[.agg #[.int .i64 ((lookR Kr pid).1).1, .int .i64 ((lookR Kr pid).1).2.1, .int .i64 ((lookR Kr pid).1).2.2], .bool (lookR Kr pid).2]) ∧ Ext w w' := by
  obtain ⟨v, L, h1, rfl, h3⟩ := h.rt
  exact get14_any pid w h1 (KL_len rfl hm) hr

theorem KL_snd (L : List (Int × Int × Int)) : (KL L).map Prod.snd = L := by simp [KL, Function.comp_def]

theorem ext_set3 {w W : World} {B : Nat} (h : Ext w W) (hB : w.heap.size ≤ B) (x : (Int × Int × Int)) : Ext w (((W.setCell ⟨B, 0, none⟩ (.int .i64 x.1)).setCell ⟨B, 1, none⟩ (.int .i64 x.2.1)).setCell ⟨B, 2, none⟩ (.int .i64 x.2.2)) := by
  unfold Ext at h ⊢
  exact set3r_mod (i := 0) h (.inr hB) x

/-- The document's row, as its cell tells it. -/
theorem Two.rowcell {W w : World} {lb tb rb : Nat} {Kt Kr : List (Int × (Int × Int × Int))} {it ir : Int} (h : Two W w lb tb rb Kt it Kr ir) :
    ∃ so sc, w.cell? ⟨rb, 0, none⟩ = some (.slice so Kr.length sc) ∧ R14 w rb (.slice so Kr.length sc) (Kr.map Prod.snd) ir := by
  obtain ⟨v, L, h1, rfl, h3⟩ := h.rt
  obtain ⟨so, sc, hv⟩ := own_slice h1.row
  refine ⟨so, sc, ?_, ?_⟩
  · rw [KL_length, ← hv]; exact h1.cells.1
  · rw [KL_length, KL_snd, ← hv]; exact h1

/-- Behind All: both tables, and the row that All handed out. -/
structure Fin3 (W w : World) (lb tb rb : Nat) (K : List (Int × (Int × Int × Int))) (ids : Int) (rv v : Value) (M : List (Int × Int × Int)) : Prop where
  lt : LT w lb tb K ids
  rt : R14 w rb rv (K.map Prod.snd) ids
  row : Row3 w v M
  below : Below W.heap.size W w
  far : ∀ k, v.ownBlock = some k → W.heap.size ≤ k ∧ rv.ownBlock ≠ some k

theorem Fin3.ext {W w w' : World} {lb tb rb : Nat} {K : List (Int × (Int × Int × Int))} {ids : Int} {rv v : Value} {M : List (Int × Int × Int)} (h : Fin3 W w lb tb rb K ids rv v M) (hE : Ext w w') : Fin3 W w' lb tb rb K ids rv v M :=
  ⟨h.lt.ext hE, h.rt.ext hE, h.row.keep (F := fun _ => False) (by unfold Ext at hE; exact hE) (fun _ _ h => h), h.below.trans (hE.below.mono h.below.size), h.far⟩

theorem Fin3.set {W w : World} {lb tb rb : Nat} {K : List (Int × (Int × Int × Int))} {ids : Int} {rv : Value} {g n cap : Nat} {M : List (Int × Int × Int)} (h : Fin3 W w lb tb rb K ids rv (.slice (some ⟨g, 0, none⟩) n cap) M) (hn : n = M.length) {i : Nat} (hi : i < M.length) (x : (Int × Int × Int)) :
    Fin3 W (set3r w g i x) lb tb rb K ids rv (.slice (some ⟨g, 0, none⟩) n cap) (M.set i x) := by
  subst hn
  have hM : Mod (fun k => k = g) w (set3r w g i x) := set3r_mod (F := fun k => k = g) (Mod.refl _ w) (.inl rfl) i x
  obtain ⟨cur, hc⟩ := own_blk h.row (k := g) rfl
  obtain ⟨hg1, hg2⟩ := h.far g rfl
  obtain ⟨cs, fr, hb⟩ := h.lt.tree.blk
  refine ⟨⟨hM.keep h.lt.blk (fun e => blk_ne h.lt.blk hc (by decide) e), ?_⟩, ⟨hM.keep h.rt.blk (fun e => blk_ne h.rt.blk hc (by decide) e), h.rt.row.keep hM (fun k hk e => hg2 (e ▸ hk))⟩, h.row.set hi x, h.below.trans (hM.below h.below.size (fun k e => e ▸ hg1)), h.far⟩
  obtain ⟨t, t1, t2, t3⟩ := h.lt.tree
  refine ⟨t, t1.keep hM ?_ (fun e => blk_ne hb hc (by decide) e), t2, t3⟩
  rintro k cs fr rfl hk
  rw [hc] at hk
  injection hk with hk
  injection hk with _ e
  exact absurd e (by decide)

set_option maxRecDepth 100000 in
set_option maxHeartbeats 8000000 in
theorem linksPlays_any (a0 : Option Addr) (cap : Nat) (l : List (Int × Int × Int)) (w : World) (ha : ArgActs w.heap.size w (.slice a0 l.length cap) l) :
    Calls Try.prog 4 #[.slice a0 l.length cap] w fun e w' => e = .returned (.bool true) ∧ Below w.heap.size w w' := by
  have HA := Lib.hid ha
  clear ha
  go_enter Try.func4, Try.ntmps4
  go_wp2_with fail
  refine (lknown_any w).mono ?_
  rintro e w1 ⟨rfl, hM1⟩
  have hB1 : Below w.heap.size w w1 := hM1.below (Nat.le_refl _) (fun _ h => h.elim)
  clear hM1
  by_cases hbig : 2000 < l.length
  · have hb1 : decide ((2000 : Int) < (l.length : Int)) = true := decide_eq_true (by omega)
    clear hbig
    go_wp2_with fail
    go_ret
    exact ⟨rfl, hB1⟩
  have hb1 : decide ((2000 : Int) < (l.length : Int)) = false := decide_eq_false (by omega)
  have hlen : l.length ≤ 2000 := by omega
  clear hbig
  go_wp2_with fail
  refine (lnew_any _).mono ?_
  rintro e w2 ⟨lb, tb, rfl, h2, hE2, hlb, htb⟩
  have hI := new_two hB1 h2 hE2 hlb htb
  obtain ⟨rb, hrb⟩ : ∃ rb, w2.heap.size = rb := ⟨_, rfl⟩
  rw [hrb] at hI
  have HI := Lib.hid hI
  clear h2 hE2 hlb htb hI hB1 hb1
  go_wp2_with fail
  generalize w2.alloc (.cells #[.slice none 0 0, .int .i64 0] 29) = w3 at HI ⊢
  clear hrb
  go_loopg [5, 6, 7, 8, 9] l.length (fun g i x0 x1 x2 x3 wr => ∃ (j : Nat) (K : List (Int × (Int × Int × Int))) (ids : Int), j + g = l.length ∧ i = .int .i64 j ∧ Hid (DI w wr lb tb rb K ids) ∧ K.length ≤ j)
  case atStart => exact ⟨0, [], 0, by omega, rfl, HI, Nat.le_refl _⟩
  case round =>
    clear HI
    obtain ⟨j, K, ids, hj, rfl, HI, hmk⟩ := hrel
    by_cases hlt : (j : Int) < (l.length : Int)
    · obtain ⟨⟨op, key, val⟩, hx⟩ : ∃ x, l[j]? = some x := ⟨l[j]'(by omega), List.getElem?_eq_getElem (by omega)⟩
      obtain ⟨so, cap', he, hcells⟩ := HA.out
      obtain ⟨b, o, rfl, hb, y0, y1, y2⟩ := hcells j _ hx
      injection he with he1 he2 he3
      subst he1
      have d0 := (HI.out.two.below.cell (p := ⟨b, o + j * 3, none⟩) hb).trans y0
      have d1 := (HI.out.two.below.cell (p := ⟨b, o + j * 3 + 1, none⟩) hb).trans y1
      have d2 := (HI.out.two.below.cell (p := ⟨b, o + j * 3 + 2, none⟩) hb).trans y2
      simp only [] at d0 d1 d2
      have Y1 := Lib.hid y1
      have e2 : IntKind.i64.wrap ((j : Int) + 1) = ((j + 1 : Nat) : Int) := by rw [IntWalk.i64_in _ (by omega)]; rfl
      clear he2 he3 hcells y0 y1 y2 hx
      by_cases hk : 1 ≤ key
      · have hk1 : decide (key < 1) = false := decide_eq_false (by omega)
        go_wp2_with fail
        refine (di_step HI.out op key val (by omega) hk).mono ?_
        rintro e w4 ⟨rfl, K', ids', hI', hm', _⟩
        have z1 := (hI'.two.below.cell (p := ⟨b, o + j * 3 + 1, none⟩) hb).trans Y1.out
        obtain ⟨c4, _, _⟩ := hI'.two.lt.cells
        obtain ⟨gv, hgv⟩ : ∃ gv, lookR K' key = gv := ⟨_, rfl⟩
        have hg : Calls Try.prog 12 #[.pointer (some ⟨tb, 0, none⟩), .int .i64 key] w4.drew fun e w' => e = .returned (.tuple #[.agg #[.int .i64 gv.1.1, .int .i64 gv.1.2.1, .int .i64 gv.1.2.2], .bool gv.2]) ∧ Ext w4 w' := by
          have := tk_get key w4.drew (hI'.two.lt.tree.ext (Ext.refl w4).drew)
          rw [hgv] at this
          exact this.mono fun _ _ hp => ⟨hp.1, (Ext.refl w4).drew.trans hp.2⟩
        have hgA : Calls Try.prog 12 #[.pointer (some ⟨tb, 0, none⟩), .int .i64 key] (w4.alloc (.cells #[.int .i64 0, .int .i64 0, .int .i64 0] 36)).drew fun e w' => e = .returned (.tuple #[.agg #[.int .i64 gv.1.1, .int .i64 gv.1.2.1, .int .i64 gv.1.2.2], .bool gv.2]) ∧ Ext (w4.alloc (.cells #[.int .i64 0, .int .i64 0, .int .i64 0] 36)) w' := by
          have := tk_get key (w4.alloc (.cells #[.int .i64 0, .int .i64 0, .int .i64 0] 36)).drew (hI'.two.lt.tree.ext ((Ext.refl w4).alloc _).drew)
          rw [hgv] at this
          exact this.mono fun _ _ hp => ⟨hp.1, (Ext.refl _).drew.trans hp.2⟩
        have z3 := ((hI'.ext ((Ext.refl w4).alloc (.cells #[.int .i64 0, .int .i64 0, .int .i64 0] 36))).two.below.cell (p := ⟨b, o + j * 3 + 1, none⟩) hb).trans Y1.out
        obtain ⟨c5, _, _⟩ := (hI'.ext ((Ext.refl w4).alloc (.cells #[.int .i64 0, .int .i64 0, .int .i64 0] 36))).two.lt.cells
        have HI' := Lib.hid hI'
        have HG := Lib.hid hgv
        clear hI' hgv d0 d1 d2
        go_upto_region 15 with (fail)
        go_cut [6, 7] from 42 to 54 (fun p q wx => ∃ B, p = .pointer (some ⟨B, 0, none⟩) ∧ q = .bool gv.2 ∧ Hid (DI w wx lb tb rb K' ids') ∧ Hid (Box3 wx B gv.1))
        case first =>
          go_region_law (first
            | (go_simp; go_at_call 12; (with_reducible refine hg.mono ?_); rintro e w5 ⟨rfl, hE5⟩; have HE5 := Lib.hid (And.intro hE5 trivial); clear hE5)
            | (go_simp; go_at_call 12; (with_reducible refine hgA.mono ?_); rintro e w5 ⟨rfl, hE5⟩; obtain ⟨_, _, _, f0, f1, f2⟩ := Box3.cells (hE5.keep (Box3.new w4 (0, 0, 0))); have HE6 := Lib.hid hE5; clear hE5))
          all_goals go_wp2
          all_goals go_meet
          all_goals first
            | exact ⟨w5.heap.size, rfl, rfl, Lib.hid (HI'.out.ext (HE5.out.1.alloc _)), Lib.hid (Box3.new w5 gv.1)⟩
            | exact ⟨w4.heap.size, rfl, rfl, Lib.hid (HI'.out.ext (ext_set3 (((Ext.refl w4).alloc _).trans HE6.out) (Nat.le_refl _) gv.1)), Lib.hid (Box3.set (HE6.out.keep (Box3.new w4 (0, 0, 0))) gv.1)⟩
        case rest =>
          obtain ⟨B, rfl, rfl, HI5, HZ5⟩ := hcut
          clear hg hgA c4 z1 z3 c5
          have hg2 := tr_get HI5.out.two key (by omega) HI5.out.ok.rising
          rw [HG.out] at hg2
          have z2 := (HI5.out.two.below.cell (p := ⟨b, o + j * 3 + 1, none⟩) hb).trans Y1.out
          go_wp2_with fail
          refine hg2.mono ?_
          rintro e w6 ⟨rfl, hE6⟩
          have hE7 := hE6.alloc (.cells #[.int .i64 gv.1.1, .int .i64 gv.1.2.1, .int .i64 gv.1.2.2] 36)
          have HI7 : Hid (DI w (w6.alloc (.cells #[.int .i64 gv.1.1, .int .i64 gv.1.2.1, .int .i64 gv.1.2.2] 36)) lb tb rb K' ids') := Lib.hid (HI5.out.ext hE7)
          obtain ⟨g0, g1, g2, _, _, _⟩ := Box3.cells (hE7.keep HZ5.out)
          obtain ⟨f0, f1, f2, _, _, _⟩ := Box3.cells (Box3.new w6 gv.1)
          clear hE6 hE7 hg2 z2
          go_upto_region 17 with (fail)
          obtain ⟨c7, _, _⟩ := HI7.out.two.lt.cells
          obtain ⟨so7, sc7, r7, _⟩ := HI7.out.two.rowcell
          generalize w6.alloc (.cells #[.int .i64 gv.1.1, .int .i64 gv.1.2.1, .int .i64 gv.1.2.2] 36) = w7 at *
          have hl : ∀ k, Calls Try.prog 15 #[.pointer (some ⟨tb, 0, none⟩)] (w7.drewN k) fun e w' => e = .returned (.int .i64 K'.length) ∧ w7.drewN k = w' := fun k => tk_len _ (HI7.out.two.lt.tree.ext ((Ext.refl w7).drewN k))
          go_quiet ((go_at_call 15; (with_reducible refine quiet_of_eq (hl _))))
          clear hl
          have HI8 := Lib.hid (HI7.out.ext ((Ext.refl w7).drewN nq))
          go_wp2_with fail
          go_roundg (l.length - j - 1)
          case measure => omega
          case rel => exact ⟨j + 1, K', ids', by omega, rfl, HI8, by omega⟩
      · have hk1 : decide (key < 1) = true := decide_eq_true (by omega)
        go_wp2_with fail
        go_roundg (l.length - j - 1)
        case measure => omega
        case rel => exact ⟨j + 1, K, ids, by omega, rfl, HI, by omega⟩
    · have hlt0 : decide (j < l.length) = false := decide_eq_false (by omega)
      clear hlt
      have hm6 : K.length ≤ 1000000 := by omega
      have hT := HI.out.two
      have hkk : ∀ x ∈ K, -9223372036854775808 ≤ x.1 := fun x hx => by have := HI.out.ok.pos x hx; omega
      obtain ⟨rso, rsc, rc, hR⟩ := hT.rowcell
      have HT := Lib.hid hT
      have HR := Lib.hid hR
      have HKK := Lib.hid hkk
      clear hT hR hkk HI rc
      go_wp2_with fail
      refine (lall_any wr HT.out.lt hm6 HKK.out).mono ?_
      rintro e w5 ⟨v, rfl, hrow, hE5, hown⟩
      have hF5 : Fin3 w w5 lb tb rb K ids (.slice rso K.length rsc) v (K.map Prod.snd) := by
        refine ⟨HT.out.lt.ext hE5, HR.out.ext hE5, hrow, HT.out.below.trans (hE5.below.mono HT.out.below.size), fun k hk => ?_⟩
        have h1 := hown k hk
        have h2 := HT.out.below.size
        exact ⟨by omega, fun e => by have := HR.out.row.lt k e; omega⟩
      obtain ⟨so, sc, rfl⟩ := own_slice hrow
      obtain ⟨L, hL⟩ : ∃ L, K.map Prod.snd = L := ⟨_, rfl⟩
      have hLK : L.length = K.length := by rw [← hL, List.length_map]
      rw [hL] at hF5 ⊢
      rw [hLK] at hF5 ⊢
      have c5 := hF5.rt.cells.1
      have hsame := same_any w5 hF5.row (show Row3 w5 (.slice rso K.length rsc) L from hL ▸ hF5.rt.row) (by omega)
      have HF5 := Lib.hid hF5
      clear hrow hE5 hown hF5
      go_wp2_with fail
      refine hsame.mono ?_
      rintro e w6 ⟨rfl, hE6⟩
      have HF6 := Lib.hid (HF5.out.ext hE6)
      clear hsame hE6 HF5 c5 HT HR
      go_wp2_with fail
      go_loopg [11] K.length (fun g i wr => ∃ (j : Nat) (M : List (Int × Int × Int)), j + g = K.length ∧ i = .int .i64 j ∧ M.length = K.length ∧ Hid (Fin3 w wr lb tb rb K ids (.slice rso K.length rsc) (.slice so K.length sc) M))
      case atStart => exact ⟨0, L, by omega, rfl, hLK, HF6⟩
      case round =>
        clear HF6
        obtain ⟨q, M, hq, rfl, hMl, HF⟩ := hrel
        by_cases hlt : q < K.length
        · obtain ⟨y, hy⟩ : ∃ y, M[q]? = some y := ⟨M[q]'(by omega), List.getElem?_eq_getElem (by omega)⟩
          obtain ⟨g, cap', he, hc, _, _, _⟩ := HF.out.row.at_ hy
          injection he with he1 he2 he3
          subst he1
          have f0 := Row3.free HF.out.row (q * 3)
          have f1 := Row3.free HF.out.row (q * 3 + 1)
          have f2 := Row3.free HF.out.row (q * 3 + 2)
          have hb0 : decide ((q : Int) < (K.length : Int)) = true := decide_eq_true (by omega)
          have hb1 : decide (q < K.length) = true := decide_eq_true hlt
          have e1 : IntKind.i64.wrap ((q : Int) + 1) = ((q + 1 : Nat) : Int) := by rw [IntWalk.i64_in _ (by omega)]; rfl
          have HS := Lib.hid (HF.out.set hMl.symm (i := q) (by omega) (0, 0, 0))
          unfold set3r at HS
          clear he2 he3 hy hc
          go_wp2_with fail
          go_roundg (K.length - q - 1)
          case measure => omega
          case rel => exact ⟨q + 1, M.set q (0, 0, 0), by omega, rfl, by rw [List.length_set]; exact hMl, HS⟩
        · have hb1 : decide (q < K.length) = false := decide_eq_false hlt
          have cl := HF.out.lt.cells.1
          have cr := HF.out.rt.cells.1
          have hall : Calls Try.prog 16 #[.pointer (some ⟨lb, 0, none⟩)] wr.drew fun e w' => ∃ s c, e = .returned (.slice s K.length c) ∧ Row3 w' (.slice s K.length c) L ∧ Ext wr w' := by
            refine (lall_any wr.drew (HF.out.lt.ext (Ext.refl wr).drew) hm6 HKK.out).mono ?_
            rintro e w' ⟨v, rfl, h1, h2, _⟩
            obtain ⟨s, c, rfl⟩ := own_slice h1
            refine ⟨s, c, by rw [List.length_map], ?_, (Ext.refl wr).drew.trans h2⟩
            rw [← hLK, ← hL]
            exact h1
          go_upto_region 26 with (fail)
          go_region_law (first
            | (go_simp; go_at_call 16; (with_reducible refine hall.mono ?_); rintro e w7 ⟨s7, c7, rfl, hrow7, hE7⟩; have cr7 := (HF.out.rt.ext hE7).cells.1; have hsm := same_any w7 hrow7 (show Row3 w7 (.slice rso K.length rsc) L from hL ▸ (HF.out.rt.ext hE7).row) (by omega); have HE7 := Lib.hid hE7; clear hE7 hrow7)
            | (go_simp; go_at_call 17; (with_reducible refine hsm.mono ?_); rintro e w8 ⟨rfl, hE8⟩; have HE8 := Lib.hid hE8; clear hE8))
          all_goals go_wp2
          all_goals go_ret
          all_goals exact ⟨rfl, HF.out.below.trans (((HE7.out.trans HE8.out).below).mono HF.out.below.size)⟩

end Go.Proofs.Ytoofhccjjhhipaa
