/- MonsPlays' walk. -/
import Derived.Test.YtjgpoggbakanlaaVStepM
import Derived.Deep.DeepCutAuto
import Derived.Deep.CutRange
import Derived.Deep.CutBlock
namespace Go.Proofs.Ytjgpoggbakanlaa
open Go.RowKit
attribute [local irreducible] Ext

theorem KL_snd (L : List (Int × Int × ByteArray)) : (KL L).map Prod.snd = L := by simp [KL, Function.comp_def]

theorem new_twom {W w w2 : World} {mb ob gb : Nat} (hB : Below W.heap.size W w) (h : MAt w2 mb ob gb .nil .nil) (hE : Ext w w2) (h2 : w.heap.size ≤ ob) (h3 : w.heap.size ≤ gb) :
    Two (fun _ => False) W (w2.alloc (.cells #[.slice none 0 0, .slice none 0 0] 41)) mb ob gb w2.heap.size [] [] [] [] := by
  have hs := hB.size
  have hE3 : Ext w2 (w2.alloc (.cells #[.slice none 0 0, .slice none 0 0] 41)) := (Ext.refl w2).alloc _
  have hs2 := Ext.size hE
  exact ⟨⟨_, _, h.ext hE3, rfl, rfl⟩, ⟨.slice none 0 0, .slice none 0 0, [], [], ⟨heap_alloc_new w2 _, World.ownsRow_nil _ _ _ _, World.ownsRow_nil _ _ _ _⟩, rfl, rfl, (fun k hk => by cases hk), (fun k hk => by cases hk)⟩, hB.trans ((hE.trans hE3).below.mono hs), by omega, by omega, by omega⟩

/-- The document's rows, as their cells tell them. -/
theorem Two.rowcells {X : Nat → Prop} {W w : World} {mb ob gb rb : Nat} {K1 K2 Q1 Q2 : List (Int × (Int × Int × ByteArray))} (h : Two X W w mb ob gb rb K1 K2 Q1 Q2) :
    ∃ s1 c1 s2 c2, w.cell? ⟨rb, 0, none⟩ = some (.slice s1 Q1.length c1) ∧ w.cell? ⟨rb, 1, none⟩ = some (.slice s2 Q2.length c2) ∧ R15 w rb (.slice s1 Q1.length c1) (.slice s2 Q2.length c2) (Q1.map Prod.snd) (Q2.map Prod.snd) := by
  obtain ⟨v1, v2, L1, L2, h1, rfl, rfl, _⟩ := h.rt
  obtain ⟨s1, c1, e1⟩ := own_slice h1.r1
  obtain ⟨s2, c2, e2⟩ := own_slice h1.r2
  refine ⟨s1, c1, s2, c2, ?_, ?_, ?_⟩
  · rw [KL_length, ← e1]; exact h1.cells.1
  · rw [KL_length, ← e2]; exact h1.cells.2.1
  · rw [KL_length, KL_length, KL_snd, KL_snd, ← e1, ← e2]; exact h1

theorem tm_len {X : Nat → Prop} {W w : World} {mb ob gb rb : Nat} {K1 K2 Q1 Q2 : List (Int × (Int × Int × ByteArray))} (h : Two X W w mb ob gb rb K1 K2 Q1 Q2) :
    Calls Try.prog 14 #[.pointer (some ⟨mb, 0, none⟩)] w fun e w' => e = .returned (.tuple #[.int .i64 K1.length, .int .i64 K2.length]) ∧ ∃ n, w' = w.drewN n := by
  obtain ⟨t, u, hA, rfl, rfl⟩ := h.mt
  have := mlen_any w hA
  rw [Tr.many_list, Tr.many_list] at this
  exact this

theorem mk_origins {w : World} {mb ob gb : Nat} {K1 K2 : List (Int × (Int × Int × ByteArray))} (h : MK w mb ob gb K1 K2) (hm : K1.length ≤ 1000000) :
    Calls Try.prog 16 #[.pointer (some ⟨mb, 0, none⟩)] w fun e w' => ∃ s c, e = .returned (.slice s K1.length c) ∧ Row3 w' (.slice s K1.length c) (K1.map Prod.snd) ∧ Ext w w' ∧ ∀ k, (Value.slice s K1.length c).ownBlock = some k → w.heap.size ≤ k := by
  obtain ⟨t, u, hA, rfl, rfl⟩ := h
  refine (origins_any w hA hm).mono ?_
  rintro e w' ⟨v, rfl, h1, h2, h3⟩
  obtain ⟨s, c, rfl⟩ := own_slice h1
  rw [List.length_map] at h1 h3 ⊢
  exact ⟨s, c, rfl, h1, h2, h3⟩

theorem mk_targets {w : World} {mb ob gb : Nat} {K1 K2 : List (Int × (Int × Int × ByteArray))} (h : MK w mb ob gb K1 K2) (hm : K2.length ≤ 1000000) :
    Calls Try.prog 17 #[.pointer (some ⟨mb, 0, none⟩)] w fun e w' => ∃ s c, e = .returned (.slice s K2.length c) ∧ Row3 w' (.slice s K2.length c) (K2.map Prod.snd) ∧ Ext w w' ∧ ∀ k, (Value.slice s K2.length c).ownBlock = some k → w.heap.size ≤ k := by
  obtain ⟨t, u, hA, rfl, rfl⟩ := h
  refine (targets_any w hA hm).mono ?_
  rintro e w' ⟨v, rfl, h1, h2, h3⟩
  obtain ⟨s, c, rfl⟩ := own_slice h1
  rw [List.length_map] at h1 h3 ⊢
  exact ⟨s, c, rfl, h1, h2, h3⟩

theorem MK.ext {w w' : World} {mb ob gb : Nat} {K1 K2 : List (Int × (Int × Int × ByteArray))} (h : MK w mb ob gb K1 K2) (hE : Ext w w') : MK w' mb ob gb K1 K2 := by
  obtain ⟨t, u, hA, e⟩ := h
  exact ⟨t, u, hA.ext hE, e⟩

/-- Both tables, and the two rows that Origins and Targets handed out. -/
structure Fin4 (W w : World) (mb ob gb rb : Nat) (K1 K2 : List (Int × (Int × Int × ByteArray))) (r1 r2 va vb : Value) (M1 M2 : List (Int × Int × ByteArray)) : Prop where
  mt : MK w mb ob gb K1 K2
  rt : R15 w rb r1 r2 (K1.map Prod.snd) (K2.map Prod.snd)
  ra : Row3 w va M1
  rb' : Row3 w vb M2
  below : Below W.heap.size W w
  fara : ∀ k, va.ownBlock = some k → W.heap.size ≤ k ∧ r1.ownBlock ≠ some k ∧ r2.ownBlock ≠ some k ∧ vb.ownBlock ≠ some k
  farb : ∀ k, vb.ownBlock = some k → W.heap.size ≤ k ∧ r1.ownBlock ≠ some k ∧ r2.ownBlock ≠ some k

section
variable {W w : World} {mb ob gb rb : Nat} {K1 K2 : List (Int × (Int × Int × ByteArray))} {r1 r2 va vb : Value} {M1 M2 : List (Int × Int × ByteArray)}

theorem Fin4.ext {w' : World} (h : Fin4 W w mb ob gb rb K1 K2 r1 r2 va vb M1 M2) (hE : Ext w w') : Fin4 W w' mb ob gb rb K1 K2 r1 r2 va vb M1 M2 :=
  ⟨h.mt.ext hE, h.rt.ext hE, h.ra.keep (F := fun _ => False) (by unfold Ext at hE; exact hE) (fun _ _ h => h), h.rb'.keep (F := fun _ => False) (by unfold Ext at hE; exact hE) (fun _ _ h => h), h.below.trans (hE.below.mono h.below.size), h.fara, h.farb⟩

theorem mk_row {w' : World} (h : MK w mb ob gb K1 K2) {g : Nat} {cur : Array Value} (hc : w.heap[g]? = some (.cells cur 31 (0, 0))) (hM : Mod (fun k => k = g) w w') : MK w' mb ob gb K1 K2 := by
  obtain ⟨t, u, hA, e⟩ := h
  have hn : ∀ k cs fr, k = g → w.heap[k]? ≠ some (.cells cs 104 fr) := by
    rintro k cs fr rfl hk
    exact blk_ne hk hc (by decide) rfl
  have hn2 : ∀ {b t}, TreeAt w b t → b ≠ g := by
    rintro b t ⟨p, hp, _⟩ e
    exact blk_ne hp hc (by decide) e
  exact ⟨t, u, ⟨hM.keep hA.tab (fun e => blk_ne hA.tab hc (by decide) e), hA.org.keep hM hn (hn2 hA.org), hA.tgt.keep hM hn (hn2 hA.tgt), hA.apart, hA.st, hA.su, hA.kt, hA.ku⟩, e⟩

theorem Fin4.seta {g n cap : Nat} (h : Fin4 W w mb ob gb rb K1 K2 r1 r2 (.slice (some ⟨g, 0, none⟩) n cap) vb M1 M2) (hn : n = M1.length) {i : Nat} (hi : i < M1.length) (x : (Int × Int × ByteArray)) :
    Fin4 W (set3r w g i x) mb ob gb rb K1 K2 r1 r2 (.slice (some ⟨g, 0, none⟩) n cap) vb (M1.set i x) M2 := by
  subst hn
  have hM : Mod (fun k => k = g) w (set3r w g i x) := set3r_mod (F := fun k => k = g) (Mod.refl _ w) (.inl rfl) i x
  obtain ⟨cur, hc⟩ := own_blk h.ra (k := g) rfl
  obtain ⟨q0, q1, q2, q3⟩ := h.fara g rfl
  exact ⟨mk_row h.mt hc hM, ⟨hM.keep h.rt.blk (fun e => blk_ne h.rt.blk hc (by decide) e), h.rt.r1.keep hM (fun k hk e => q1 (e ▸ hk)), h.rt.r2.keep hM (fun k hk e => q2 (e ▸ hk))⟩, h.ra.set hi x, h.rb'.keep hM (fun k hk e => q3 (e ▸ hk)), h.below.trans (hM.below h.below.size (fun k e => e ▸ q0)), h.fara, h.farb⟩

theorem Fin4.setb {g n cap : Nat} (h : Fin4 W w mb ob gb rb K1 K2 r1 r2 va (.slice (some ⟨g, 0, none⟩) n cap) M1 M2) (hn : n = M2.length) {i : Nat} (hi : i < M2.length) (x : (Int × Int × ByteArray)) :
    Fin4 W (set3r w g i x) mb ob gb rb K1 K2 r1 r2 va (.slice (some ⟨g, 0, none⟩) n cap) M1 (M2.set i x) := by
  subst hn
  have hM : Mod (fun k => k = g) w (set3r w g i x) := set3r_mod (F := fun k => k = g) (Mod.refl _ w) (.inl rfl) i x
  obtain ⟨cur, hc⟩ := own_blk h.rb' (k := g) rfl
  obtain ⟨q0, q1, q2⟩ := h.farb g rfl
  exact ⟨mk_row h.mt hc hM, ⟨hM.keep h.rt.blk (fun e => blk_ne h.rt.blk hc (by decide) e), h.rt.r1.keep hM (fun k hk e => q1 (e ▸ hk)), h.rt.r2.keep hM (fun k hk e => q2 (e ▸ hk))⟩, h.ra.keep hM (fun k hk e => (h.fara k hk).2.2.2 (by subst e; rfl)), h.rb'.set hi x, h.below.trans (hM.below h.below.size (fun k e => e ▸ q0)), h.fara, h.farb⟩
end

set_option maxRecDepth 100000 in
set_option maxHeartbeats 8000000 in
theorem monsPlays_any (a0 : Option Addr) (cap : Nat) (l : List (Int × Int × Int × ByteArray)) (w : World) (ha : ArgMs w.heap.size w (.slice a0 l.length cap) l) (hw : ∀ x ∈ l, -9223372036854775808 ≤ x.2.1 ∧ x.2.1 ≤ 9223372036854775807) :
    Calls Try.prog 4 #[.slice a0 l.length cap] w fun e w' => e = .returned (.bool true) ∧ Below w.heap.size w w' := by
  have HA := Lib.hid ha
  have HWW := Lib.hid hw
  clear ha hw
  go_enter Try.func4, Try.ntmps4
  go_wp2_with fail
  refine (mknown_any w).mono ?_
  rintro e w1 ⟨rfl, hM1⟩
  have hB1 : Below w.heap.size w w1 := hM1.below (Nat.le_refl _) (fun _ h => h.elim)
  clear hM1
  by_cases hbig : 2000 < l.length
  · have hb1 : decide ((2000 : Int) < (l.length : Int)) = true := decide_eq_true (by omega)
    clear hbig
    go_wp2_with fail
    go_ret
    exact ⟨rfl, hB1⟩
  have hb1 : decide ((2000 : Int) < (l.length : Int)) = false := decide_eq_false (by omega)
  have hlen : l.length ≤ 2000 := by omega
  clear hbig
  go_wp2_with fail
  refine (mnew_any _).mono ?_
  rintro e w2 ⟨mb, ob, gb, rfl, h2, hE2, hmb, hob, hgb⟩
  have hI := new_twom hB1 h2 hE2 hob hgb
  obtain ⟨rb, hrb⟩ : ∃ rb, w2.heap.size = rb := ⟨_, rfl⟩
  rw [hrb] at hI
  have HI := Lib.hid hI
  clear h2 hE2 hmb hob hgb hI hB1 hb1
  go_wp2_with fail
  generalize w2.alloc (.cells #[.slice none 0 0, .slice none 0 0] 41) = w3 at HI ⊢
  clear hrb
  go_loopg [5, 6, 7] l.length (fun g i x0 x1 wr => ∃ (j : Nat) (K1 K2 : List (Int × (Int × Int × ByteArray))), j + g = l.length ∧ i = .int .i64 j ∧ Hid (Two (fun _ => False) w wr mb ob gb rb K1 K2 K1 K2) ∧ K1.length ≤ j ∧ K2.length ≤ j)
  case atStart => exact ⟨0, [], [], by omega, rfl, HI, Nat.le_refl _, Nat.le_refl _⟩
  case round =>
    clear HI
    obtain ⟨j, K1, K2, hj, rfl, HI, hmk1, hmk2⟩ := hrel
    by_cases hlt : (j : Int) < (l.length : Int)
    · obtain ⟨⟨op, ref, pid, name⟩, hx⟩ : ∃ x, l[j]? = some x := ⟨l[j]'(by omega), List.getElem?_eq_getElem (by omega)⟩
      have hkr := (HWW.out _ (List.mem_of_getElem? hx)).1
      dsimp only at hkr
      obtain ⟨so, cap', he, hcells⟩ := HA.out
      obtain ⟨b, o, rfl, hb, y0, y1, y2, y3⟩ := hcells j _ hx
      injection he with he1 he2 he3
      subst he1
      have e2 : IntKind.i64.wrap ((j : Int) + 1) = ((j + 1 : Nat) : Int) := by rw [IntWalk.i64_in _ (by omega)]; rfl
      clear he2 he3 hcells hx
      go_wp2_with fail
      refine (tm_len HI.out).mono ?_
      rintro e w' ⟨rfl, nq, rfl⟩
      have hI2 := HI.out.ext ((Ext.refl wr).drewN nq)
      generalize wr.drewN nq = wq at hI2 ⊢
      have d0 := (hI2.below.cell (p := ⟨b, o + j * 4, none⟩) hb).trans y0
      have d1 := (hI2.below.cell (p := ⟨b, o + j * 4 + 1, none⟩) hb).trans y1
      have d2 := (hI2.below.cell (p := ⟨b, o + j * 4 + 2, none⟩) hb).trans y2
      have d3 := (hI2.below.cell (p := ⟨b, o + j * 4 + 3, none⟩) hb).trans y3
      try dsimp only at d0 d1 d2 d3
      obtain ⟨s1, c1, s2, c2, r0, r1, _⟩ := hI2.rowcells
      have hstep := stepm_any op ref pid name hkr hI2 (by omega) (by omega)
      clear hI2 HI y0 y1 y2 y3 hkr
      go_wp2_with fail
      refine hstep.mono ?_
      rintro e w4 ⟨rfl, K1', K2', hI', hm1', hm2'⟩
      have HI' := Lib.hid hI'
      clear hI' hstep d0 d1 d2 d3 r0 r1
      go_wp2_with fail
      go_roundg (l.length - j - 1)
      case measure => omega
      case rel => exact ⟨j + 1, K1', K2', by omega, rfl, HI', by omega, by omega⟩
    · have hlt0 : decide (j < l.length) = false := decide_eq_false (by omega)
      clear hlt
      obtain ⟨L1, hL1⟩ : ∃ L, K1.map Prod.snd = L := ⟨_, rfl⟩
      obtain ⟨L2, hL2⟩ : ∃ L, K2.map Prod.snd = L := ⟨_, rfl⟩
      have hl1 : L1.length = K1.length := by rw [← hL1, List.length_map]
      have hl2 : L2.length = K2.length := by rw [← hL2, List.length_map]
      obtain ⟨s1, c1, s2, c2, _, _, hR⟩ := HI.out.rowcells
      have hT := HI.out
      have hO := mk_origins hT.mt (by omega)
      rw [hL1] at hO
      have HT := Lib.hid hT
      have HR := Lib.hid hR
      clear hT hR HI
      go_wp2_with fail
      refine hO.mono ?_
      rintro e w5 ⟨s3, c3, rfl, hrow5, hE5, hown5⟩
      have hT2 := mk_targets (HT.out.mt.ext hE5) (by omega)
      rw [hL2] at hT2
      have HE5 := Lib.hid (And.intro hE5 (And.intro hrow5 hown5))
      clear hO hrow5 hE5 hown5
      go_wp2_with fail
      refine hT2.mono ?_
      rintro e w6 ⟨s4, c4, rfl, hrow6, hE6, hown6⟩
      have hF6 : Fin4 w w6 mb ob gb rb K1 K2 (.slice s1 K1.length c1) (.slice s2 K2.length c2) (.slice s3 K1.length c3) (.slice s4 K2.length c4) L1 L2 := by
        obtain ⟨hE5, hrow5, hown5⟩ := HE5.out
        have hs1 := HT.out.below.size
        have hs2 := Ext.size hE5
        refine ⟨HT.out.mt.ext (hE5.trans hE6), HR.out.ext (hE5.trans hE6), hrow5.keep (F := fun _ => False) (by unfold Ext at hE6; exact hE6) (fun _ _ h => h), hrow6, HT.out.below.trans ((hE5.trans hE6).below.mono HT.out.below.size), fun k hk => ?_, fun k hk => ?_⟩
        · have h1 := hown5 k hk
          exact ⟨by omega, fun e => by have := HR.out.r1.lt k e; omega, fun e => by have := HR.out.r2.lt k e; omega, fun e => by have := hown6 k e; have := hrow5.lt k hk; omega⟩
        · have h1 := hown6 k hk
          exact ⟨by omega, fun e => by have := HR.out.r1.lt k e; omega, fun e => by have := HR.out.r2.lt k e; omega⟩
      have hL : K1.length ≤ 1000000 ∧ K2.length ≤ 1000000 := ⟨by omega, by omega⟩
      obtain ⟨cr0, cr1, _, _⟩ := hF6.rt.cells
      have hsm1 := same_any w6 hF6.ra (hL1 ▸ hF6.rt.r1) (by omega)
      have HF6 := Lib.hid hF6
      clear hT2 hrow6 hE6 hown6 hF6 HE5 HT HR
      go_wp2_with fail
      refine hsm1.mono ?_
      rintro e w7 ⟨rfl, hE7⟩
      have hF7 := HF6.out.ext hE7
      obtain ⟨dr0, dr1, _, _⟩ := hF7.rt.cells
      have hsm2 := same_any w7 hF7.rb' (hL2 ▸ hF7.rt.r2) (by omega)
      have HF7 := Lib.hid hF7
      clear hsm1 hE7 HF6 cr0 cr1 hF7
      go_wp2_with fail
      refine hsm2.mono ?_
      rintro e w8 ⟨rfl, hE8⟩
      have HF8 := Lib.hid (HF7.out.ext hE8)
      clear hsm2 hE8 HF7 dr0 dr1
      go_wp2_with fail
      go_loopg [10] K1.length (fun g i wr => ∃ (j : Nat) (M : List (Int × Int × ByteArray)), j + g = K1.length ∧ i = .int .i64 j ∧ M.length = K1.length ∧ Hid (Fin4 w wr mb ob gb rb K1 K2 (.slice s1 K1.length c1) (.slice s2 K2.length c2) (.slice s3 K1.length c3) (.slice s4 K2.length c4) M L2))
      case atStart => exact ⟨0, L1, by omega, rfl, hl1, HF8⟩
      case round =>
        clear HF8
        obtain ⟨q, M, hq, rfl, hMl, HF⟩ := hrel
        by_cases hlt : q < K1.length
        · obtain ⟨y, hy⟩ : ∃ y, M[q]? = some y := ⟨M[q]'(by omega), List.getElem?_eq_getElem (by omega)⟩
          obtain ⟨g, cap', he, hc, _, _, _⟩ := HF.out.ra.at_ hy
          injection he with he1 he2 he3
          subst he1
          have f0 := Row3.free HF.out.ra (q * 3)
          have f1 := Row3.free HF.out.ra (q * 3 + 1)
          have f2 := Row3.free HF.out.ra (q * 3 + 2)
          have hb0 : decide ((q : Int) < (K1.length : Int)) = true := decide_eq_true (by omega)
          have hb1 : decide (q < K1.length) = true := decide_eq_true hlt
          have e1 : IntKind.i64.wrap ((q : Int) + 1) = ((q + 1 : Nat) : Int) := by rw [IntWalk.i64_in _ (by omega)]; rfl
          have HS := Lib.hid (HF.out.seta hMl.symm (i := q) (by omega) (0, 0, ⟨#[]⟩))
          unfold set3r at HS
          clear he2 he3 hy hc
          go_wp2_with fail
          go_roundg (K1.length - q - 1)
          case measure => omega
          case rel => exact ⟨q + 1, M.set q (0, 0, ⟨#[]⟩), by omega, rfl, by rw [List.length_set]; exact hMl, HS⟩
        · have hb1 : decide (q < K1.length) = false := decide_eq_false hlt
          clear hlt
          go_wp2_with fail
          go_loopg [11] K2.length (fun g i wr => ∃ (j : Nat) (N : List (Int × Int × ByteArray)), j + g = K2.length ∧ i = .int .i64 j ∧ N.length = K2.length ∧ Hid (Fin4 w wr mb ob gb rb K1 K2 (.slice s1 K1.length c1) (.slice s2 K2.length c2) (.slice s3 K1.length c3) (.slice s4 K2.length c4) M N))
          case atStart => exact ⟨0, L2, by omega, rfl, hl2, HF⟩
          case round =>
            clear HF
            obtain ⟨p, N, hp, rfl, hNl, HF⟩ := hrel
            by_cases hlt : p < K2.length
            · obtain ⟨y, hy⟩ : ∃ y, N[p]? = some y := ⟨N[p]'(by omega), List.getElem?_eq_getElem (by omega)⟩
              obtain ⟨g, cap', he, hc, _, _, _⟩ := HF.out.rb'.at_ hy
              injection he with he1 he2 he3
              subst he1
              have f0 := Row3.free HF.out.rb' (p * 3)
              have f1 := Row3.free HF.out.rb' (p * 3 + 1)
              have f2 := Row3.free HF.out.rb' (p * 3 + 2)
              have hb0 : decide ((p : Int) < (K2.length : Int)) = true := decide_eq_true (by omega)
              have hb2 : decide (p < K2.length) = true := decide_eq_true hlt
              have e1 : IntKind.i64.wrap ((p : Int) + 1) = ((p + 1 : Nat) : Int) := by rw [IntWalk.i64_in _ (by omega)]; rfl
              have HS := Lib.hid (HF.out.setb hNl.symm (i := p) (by omega) (0, 0, ⟨#[]⟩))
              unfold set3r at HS
              clear he2 he3 hy hc
              go_wp2_with fail
              go_roundg (K2.length - p - 1)
              case measure => omega
              case rel => exact ⟨p + 1, N.set p (0, 0, ⟨#[]⟩), by omega, rfl, by rw [List.length_set]; exact hNl, HS⟩
            · have hb2 : decide (p < K2.length) = false := decide_eq_false hlt
              clear hlt
              have cr := HF.out.rt.cells.1
              have hall : Calls Try.prog 16 #[.pointer (some ⟨mb, 0, none⟩)] wr.drew fun e w' => ∃ s c, e = .returned (.slice s K1.length c) ∧ Row3 w' (.slice s K1.length c) L1 ∧ Ext wr w' := by
                have := mk_origins (HF.out.mt.ext (Ext.refl wr).drew) (by omega)
                rw [hL1] at this
                exact this.mono fun _ _ ⟨s, c, h1, h2, h3, _⟩ => ⟨s, c, h1, h2, (Ext.refl wr).drew.trans h3⟩
              have htgt : ∀ w', Ext wr w' → Calls Try.prog 17 #[.pointer (some ⟨mb, 0, none⟩)] w' fun e w'' => ∃ s c, e = .returned (.slice s K2.length c) ∧ Row3 w'' (.slice s K2.length c) L2 ∧ Ext wr w'' := by
                intro w' hE
                have := mk_targets (HF.out.mt.ext hE) (by omega)
                rw [hL2] at this
                exact this.mono fun _ _ ⟨s, c, h1, h2, h3, _⟩ => ⟨s, c, h1, h2, hE.trans h3⟩
              have HTG := Lib.hid htgt
              clear htgt
              go_upto_region 27 with (fail)
              go_region_law (first
                | (go_simp; go_at_call 16; (with_reducible refine hall.mono ?_); rintro e w7 ⟨s7, c7, rfl, hrow7, hE7⟩; have cr7 := (HF.out.rt.ext hE7).cells.1; have hsm := same_any w7 hrow7 (hL1 ▸ (HF.out.rt.ext hE7).r1) (by omega); have HE7 := Lib.hid hE7; clear hE7 hrow7)
                | (go_simp; go_at_call 18; (with_reducible refine hsm.mono ?_); rintro e w8 ⟨rfl, hE8⟩; have hE9 := HE7.out.trans hE8; have cr8 := (HF.out.rt.ext hE9).cells.2.1; have htg := HTG.out w8 hE9; clear hE8 hE9)
                | (go_simp; go_at_call 17; (with_reducible refine htg.mono ?_); rintro e w9 ⟨s9, c9, rfl, hrow9, hE9⟩; have cr9 := (HF.out.rt.ext hE9).cells.2.1; have hsn := same_any w9 hrow9 (hL2 ▸ (HF.out.rt.ext hE9).r2) (by omega); have HE9 := Lib.hid hE9; clear hE9 hrow9)
                | (go_simp; go_at_call 18; (with_reducible refine hsn.mono ?_); rintro e w10 ⟨rfl, hE10⟩; have HE10 := Lib.hid hE10; clear hE10))
              all_goals go_wp2
              all_goals go_ret
              all_goals exact ⟨rfl, HF.out.below.trans (((HE9.out.trans HE10.out).below).mono HF.out.below.size)⟩

end Go.Proofs.Ytjgpoggbakanlaa
