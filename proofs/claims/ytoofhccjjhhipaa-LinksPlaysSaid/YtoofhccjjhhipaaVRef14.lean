/- The document's half-links: a rising row of halves: find, Get, Set, drop. -/
import Derived.Test.YtoofhccjjhhipaaRow3
import Derived.Outline
namespace Go.Proofs.Ytoofhccjjhhipaa
open Go.RowKit
attribute [local irreducible] Ext

theorem Ext.size {a b : World} (h : Ext a b) : a.heap.size ≤ b.heap.size := by unfold Ext at h; exact Mod.size h

theorem mod_of_ext {F : Nat → Prop} {w w' : World} (h : Ext w w') : Mod F w w' := by
  unfold Ext at h
  exact h.mono (fun _ _ h => h.elim)

/-- The halves by their keys. -/
def KL (L : List (Int × Int × Int)) : List (Int × (Int × Int × Int)) := L.map fun h => (h.1, h)

theorem KL_at {L : List (Int × Int × Int)} {i : Nat} {x : (Int × Int × Int)} (h : L[i]? = some x) : (KL L)[i]? = some (x.1, x) := by simp [KL, h]
theorem KL_length (L : List (Int × Int × Int)) : (KL L).length = L.length := by simp [KL]
theorem KL_of {L : List (Int × Int × Int)} {i : Nat} {y : Int × (Int × Int × Int)} (h : (KL L)[i]? = some y) : L[i]? = some y.2 ∧ y.1 = y.2.1 := by
  unfold KL at h
  rw [List.getElem?_map] at h
  cases hx : L[i]? with
  | none => simp [hx] at h
  | some x =>
    simp [hx] at h
    subst h
    exact ⟨rfl, rfl⟩

/-- The document's table in block b. -/
structure R14 (w : World) (b : Nat) (v : Value) (L : List (Int × Int × Int)) (last : Int) : Prop where
  blk : w.heap[b]? = some (.cells #[v, .int .i64 last] 29 (0, 0))
  row : Row3 w v L

theorem R14.ext {w w' : World} {b : Nat} {v : Value} {L : List (Int × Int × Int)} {last : Int} (h : R14 w b v L last) (hE : Ext w w') : R14 w' b v L last := by
  refine ⟨hE.keep h.blk, h.row.keep (F := fun _ => False) ?_ (fun _ _ h => h)⟩
  unfold Ext at hE
  exact hE

theorem R14.cells {w : World} {b : Nat} {v : Value} {L : List (Int × Int × Int)} {last : Int} (h : R14 w b v L last) : w.cell? ⟨b, 0, none⟩ = some v ∧ w.cell? ⟨b, 1, none⟩ = some (.int .i64 last) ∧ w.frozen? ⟨b, 0, none⟩ = false ∧ w.frozen? ⟨b, 1, none⟩ = false :=
  ⟨by simp [cell_of_heap h.blk], by simp [cell_of_heap h.blk], free_of_heap h.blk 0, free_of_heap h.blk 1⟩

set_option maxHeartbeats 2000000 in
theorem find14_any {b : Nat} {v : Value} {L : List (Int × Int × Int)} {last : Int} (key : Int) (w : World) (h : R14 w b v L last) (hL : L.length ≤ 1000000000) :
    Calls Try.prog 40 #[.pointer (some ⟨b, 0, none⟩), .int .i64 key] w fun e w' => e = .returned (.tuple #[.int .i64 (place key (KL L)), .bool (there key (KL L))]) ∧ Ext w w' := by
  obtain ⟨so, sc, rfl⟩ := own_slice h.row
  have c0 := h.cells.1
  have HR := Lib.hid h.row
  have hKL := KL_length L
  have HKL := Lib.hid hKL
  clear h hKL
  go_enter Try.func40, Try.ntmps40
  go_wp2_with fail
  go_loopg [6] L.length (fun g i wr => w = wr ∧ ∃ j : Nat, j + g = L.length ∧ i = .int .i64 j ∧ Hid (∀ q, q < j → ∀ a, (KL L)[q]? = some a → a.1 < key))
  case atStart => exact ⟨rfl, 0, by omega, rfl, Lib.hid (fun q hq => by omega)⟩
  case round =>
    obtain ⟨rfl, j, hj, rfl, hbel⟩ := hrel
    by_cases hlt : j < L.length
    · obtain ⟨x, hx⟩ : ∃ x, L[j]? = some x := ⟨L[j]'hlt, List.getElem?_eq_getElem hlt⟩
      obtain ⟨g, cap, he, hnc, hc0, hc1, hc2⟩ := HR.out.at_ hx
      injection he with he1 he2 he3
      subst he1
      subst he3
      have HX := Lib.hid (KL_at hx)
      have hc0' : w.cell? ⟨g, 0 + j * 3, none⟩ = some (.int .i64 x.1) := by rw [Nat.zero_add]; exact hc0
      clear hx
      have hb0 : decide ((j : Int) < (L.length : Int)) = true := decide_eq_true (by omega)
      by_cases hk : x.1 < key
      · have e1 : IntKind.i64.wrap ((j : Int) + 1) = ((j + 1 : Nat) : Int) := by rw [IntWalk.i64_in _ (by omega)]; rfl
        go_wp2_with fail
        go_roundg (L.length - j - 1)
        case measure => omega
        case rel =>
          refine ⟨rfl, j + 1, by omega, rfl, Lib.hid (fun q hq a ha => ?_)⟩
          rcases Nat.lt_succ_iff_lt_or_eq.1 hq with hq | rfl
          · exact hbel.out q hq a ha
          · rw [HX.out] at ha
            rw [← Option.some.inj ha]
            exact hk
      · have hp : place key (KL L) = j := place_of hbel.out (.inr ⟨_, HX.out, hk⟩)
        have ht : there key (KL L) = (x.1 == key) := by
          unfold there
          rw [hp, HX.out]
          show decide (x.1 = key) = _
          rw [Bool.eq_iff_iff]
          simp
        have HP := Lib.hid (And.intro hp ht)
        clear hp ht hbel
        go_wp2_with fail
        go_quiet (fail)
        go_wp2
        go_ret2
        exact ⟨by rw [HP.out.1, HP.out.2]; rfl, (Ext.refl w).drewN nq⟩
    · obtain rfl : j = L.length := by omega
      have hp : place key (KL L) = L.length := place_of hbel.out (.inl HKL.out.symm)
      have ht : there key (KL L) = false := by
        unfold there
        rw [hp]
        simp [KL]
      have HP := Lib.hid (And.intro hp ht)
      clear hp ht hbel hlt
      go_wp2_with fail
      go_quiet (fail)
      go_wp2
      go_ret2
      exact ⟨by rw [HP.out.1, HP.out.2]; rfl, (Ext.refl w).drewN nq⟩

/-- What Get tells. -/
def lookR (K : List (Int × (Int × Int × Int))) (key : Int) : (Int × Int × Int) × Bool := match look key K with | some v => (v, true) | none => ((0, 0, 0), false)

/-- What a writing call of the document's table leaves. -/
def Post14 (w w' : World) (b : Nat) (v : Value) (last : Int) (K' : List (Int × (Int × Int × Int))) : Prop :=
  ∃ v' L', R14 w' b v' L' last ∧ KL L' = K' ∧ Mod (fun k => k = b ∨ some k = v.ownBlock) w w' ∧ ∀ k, v'.ownBlock = some k → some k = v.ownBlock ∨ w.heap.size ≤ k

theorem ext_of_mod {a b c : World} {F : Nat → Prop} (h : Ext a b) (hM : Mod F b c) (hF : ∀ k, F k → a.heap.size ≤ k) : Ext a c := by
  unfold Ext at h ⊢
  exact h.trans hM (fun i hi hf => by have := hF i hf; omega)

theorem R14.ne {w : World} {b : Nat} {v : Value} {L : List (Int × Int × Int)} {last : Int} (h : R14 w b v L last) : v.ownBlock ≠ some b := own_ne_elem h.row h.blk (by decide)

theorem KL_set (L : List (Int × Int × Int)) {i : Nat} (x : (Int × Int × Int)) (k : Int) (hk : x.1 = k) : KL (L.set i x) = (KL L).set i (k, x) := by
  subst hk
  simp [KL, List.map_set]

set_option maxHeartbeats 2000000 in
theorem set14_there {b : Nat} {v : Value} {L : List (Int × Int × Int)} {last : Int} (pid : Int) (w : World) (h : R14 w b v L last) (hL : L.length ≤ 1000000) {i : Nat} {a : (Int × Int × Int)} (ha : L[i]? = some a) (hp : place pid (KL L) = i) (hk : a.1 = pid) (ht : there pid (KL L) = true) :
    Calls Try.prog 35 #[.pointer (some ⟨b, 0, none⟩), .int .i64 pid] w fun e w' => (∃ u, e = .returned u) ∧ Post14 w w' b v last (ins pid (pid, 1, 0) (KL L)) := by
  have hf := find14_any pid w h (by omega)
  rw [hp, ht] at hf
  have hins : ins pid (pid, 1, 0) (KL L) = KL (L.set i (pid, 1, 0)) := by
    rw [KL_set L (pid, 1, 0) pid rfl, ← hp]
    exact ins_there (by rw [hp]; exact KL_at ha) hk
  rw [hins]
  have hi := (List.getElem?_eq_some_iff.1 ha).1
  have HH := Lib.hid h
  have HA := Lib.hid ha
  clear hins ht hp ha hk h
  go_enter Try.func35, Try.ntmps35
  go_wp2_with (go_at_call 40; (with_reducible refine hf.mono ?_); rintro e wa ⟨rfl, hEa⟩; obtain ⟨c0, c1, d0, d1⟩ := (HH.out.ext hEa).cells; obtain ⟨ga, capa, hv, hcap, q0, q1, q2⟩ := (HH.out.ext hEa).row.at_ HA.out; rw [hv] at c0; have f0 := Row3.free (hv ▸ (HH.out.ext hEa).row) (i * 3); have f1 := Row3.free (hv ▸ (HH.out.ext hEa).row) (i * 3 + 1); have f2 := Row3.free (hv ▸ (HH.out.ext hEa).row) (i * 3 + 2); have HV := Lib.hid hv; clear hv)
  go_end0
  obtain rfl := HV.out
  refine ⟨⟨_, rfl⟩, .slice (some ⟨ga, 0, none⟩) L.length capa, L.set i (pid, 1, 0), ⟨?_, (HH.out.ext hEa).row.set hi (pid, 1, 0)⟩, rfl, ?_, fun k hk => .inl hk.symm⟩
  · exact (set3r_mod (F := fun k => k = ga) (Mod.refl _ wa) (.inl rfl) i (pid, 1, 0)).keep (HH.out.ext hEa).blk (fun e => HH.out.ne (by rw [e]; rfl))
  · exact set3r_mod (mod_of_ext hEa) (.inl (.inr rfl)) i (pid, 1, 0)

theorem src_new (w : World) : Src (w.alloc (.cells #[.int .i64 0, .int .i64 0, .int .i64 0] 36)) (some ⟨w.heap.size, 0, none⟩) [.int .i64 0, .int .i64 0, .int .i64 0] := by
  intro j u hu
  refine ⟨_, rfl, ?_⟩
  have h := cell_of_heap (heap_alloc_new w (.cells #[.int .i64 0, .int .i64 0, .int .i64 0] 36))
  have e : (⟨w.heap.size, 0, none⟩ : Addr).add j = ⟨w.heap.size, j, none⟩ := by unfold Addr.add; split <;> simp_all
  rw [e, h j, ← hu]
  simp

/-- The address behind a place. -/
theorem tail3 (g cap i : Nat) {L : List (Int × Int × Int)} {w : World} (h : Row3 w (.slice (some ⟨g, 0, none⟩) L.length cap) L) (hc : L.length ≤ cap) : ∃ so, (if cap = i then some (⟨g, 0, none⟩ : Addr) else some ⟨g, i * 3, none⟩) = so ∧ Src w so (fl (L.drop i)) := by
  by_cases hcap : cap = i
  · refine ⟨some ⟨g, 0, none⟩, if_pos hcap, src_own h i _ (.inl ?_)⟩
    rw [List.drop_eq_nil_of_le (by omega)]
    rfl
  · exact ⟨some ⟨g, i * 3, none⟩, if_neg hcap, src_own h i _ (.inr rfl)⟩

set_option maxRecDepth 100000 in
set_option maxHeartbeats 4000000 in
theorem set14_new {b : Nat} {v : Value} {L : List (Int × Int × Int)} {last : Int} (pid : Int) (w : World) (h : R14 w b v L last) (hL : L.length ≤ 1000000) {i : Nat} (hp : place pid (KL L) = i) (ht : there pid (KL L) = false) :
    Calls Try.prog 35 #[.pointer (some ⟨b, 0, none⟩), .int .i64 pid] w fun e w' => (∃ u, e = .returned u) ∧ Post14 w w' b v last (ins pid (pid, 1, 0) (KL L)) := by
  have hf := find14_any pid w h (by omega)
  rw [hp, ht] at hf
  have hil : i ≤ L.length := by have := place_le pid (KL L); rw [KL_length] at this; omega
  have hins : ins pid (pid, 1, 0) (KL L) = KL (L.take i ++ (pid, 1, 0) :: L.drop i) := by
    rw [ins_not ht, hp]
    simp [KL, List.map_take, List.map_drop]
  rw [hins]
  have HH := Lib.hid h
  have s0 : (0 : Int) ≤ (i : Int) := by omega
  clear hins ht hp h
  obtain ⟨i0, hi, hz0, hz1, hz2⟩ := info_parts info3
  rcases HH.out.row.slice with ⟨hv, hnil⟩ | ⟨ga, capa, hv, hcap⟩
  · subst hv
    have hL0 : L.length = 0 := by rw [hnil]; rfl
    have s1 : (i : Int) ≤ 0 := by omega
    have hd0 : fl (L.drop i) = [] := by rw [hnil]; simp [fl]
    have ht0 : fl (L.take i) = [] := by rw [hnil]; simp [fl]
    have hz : (i : Int) = 0 := by omega
    have hzn : i = 0 := by omega
    have hl1 : (fl (L.take i)).length = i * 3 := by rw [fl_length, List.length_take, Nat.min_eq_left hil]
    have hl2 : (fl (L.drop i)).length = (L.length - i) * 3 := by rw [fl_length, List.length_drop]
    have HL0 := Lib.hid hL0
    have HZ := Lib.hid hz
    have HZN := Lib.hid hzn
    have HT0 := Lib.hid ht0
    have HD0 := Lib.hid hd0
    clear hL0 hz ht0 hd0 hzn hnil
    go_enter Try.func35, Try.ntmps35
    go_wp2_with (first
      | (go_at_call 40; (with_reducible refine hf.mono ?_); rintro e wa ⟨rfl, hEa⟩; obtain ⟨c0, c1, d0, d1⟩ := (HH.out.ext hEa).cells; have c0' := (HH.out.ext (hEa.alloc (.cells #[] 36))).cells.1; have HEa := Lib.hid hEa; clear hEa)
      | (at_builtin
         refine wpList_app rfl (.tmp 15) (.tmp 21) 27 rfl wa.heap.size 36 i0 (.agg #[.int .i64 0, .int .i64 0, .int .i64 0]) 3 24 Try.underlying27 hi hz0 hz1 hz2 rfl (by decide) _ 0 [] rfl (fresh_at (Nat.le_refl _) (heap_alloc_new wa _)) none i 0 (fl (L.take i)) rfl hl1 (by rw [HT0.out]; exact Src.nil _ _) (fl_ones _) (by omega) (by decide) (by simp) ?_
         intro so1 sc1 w1 hown1 hM1 hb1
         rw [Nat.zero_add, List.nil_append] at hown1
         rw [Nat.zero_add] at hb1
         have hE1 : Ext wa w1 := ext_of_mod ((Ext.refl wa).alloc _) hM1 (fun k e => Nat.le_of_eq (Option.some.inj e).symm)
         have HO1 := Lib.hid hown1
         have HM1 := Lib.hid hM1
         have HB1 := Lib.hid hb1
         have HE1 := Lib.hid hE1
         have c2 := ((HH.out.ext HEa.out).ext hE1).cells.1
         clear hown1 hM1 hb1 hE1)
      | (at_builtin
         refine wpList_app rfl (.tmp 22) (.tmp 24) 27 rfl wa.heap.size 36 i0 (.agg #[.int .i64 0, .int .i64 0, .int .i64 0]) 3 24 Try.underlying27 hi hz0 hz1 hz2 rfl (by decide) _ i (fl (L.take i)) rfl (HO1.out.alloc _) (some ⟨w1.heap.size, 0, none⟩) 1 1 [.int .i64 0, .int .i64 0, .int .i64 0] rfl rfl (src_new w1) (by simp [Value.oneCell']) (by omega) (by decide) (by have := Ext.size HE1.out; simp; omega) ?_
         intro so2 sc2 w2 hown2 hM2 hb2
         have hE2 : Ext wa w2 := ext_of_mod (HE1.out.alloc _) hM2 (fun k e => own_base' HO1.out e.symm)
         have HO2 := Lib.hid hown2
         have HE2 := Lib.hid hE2
         have c3 := ((HH.out.ext HEa.out).ext hE2).cells.1
         clear hown2 hM2 hb2 hE2)
      | (at_builtin
         refine wpList_app rfl (.tmp 27) (.tmp 33) 27 rfl wa.heap.size 36 i0 (.agg #[.int .i64 0, .int .i64 0, .int .i64 0]) 3 24 Try.underlying27 hi hz0 hz1 hz2 rfl (by decide) (.slice so2 (i + 1) sc2) (i + 1) (fl (L.take i) ++ [.int .i64 0, .int .i64 0, .int .i64 0]) rfl HO2.out none 0 0 (fl (L.drop i)) rfl (by rw [hl2, HL0.out, Nat.zero_sub]) (by rw [HD0.out]; exact Src.nil _ _) (fl_ones _) (by omega) (by decide) (Ext.size HE2.out) ?_
         intro so4 sc4 w3 hown3 hM3 hb3
         have hE3 : Ext wa w3 := ext_of_mod HE2.out hM3 (fun k e => own_base' HO2.out e.symm)
         have hn : i + 1 + 0 = (L.take i ++ (0, 0, 0) :: L.drop i).length := by have := HL0.out; have := HZN.out; simp; omega
         rw [hn] at hown3 ⊢
         have hR3 : Row3 w3 (.slice so4 (L.take i ++ (0, 0, 0) :: L.drop i).length sc4) (L.take i ++ (0, 0, 0) :: L.drop i) := by
           unfold Row3
           have := own_zero hown3
           rw [fl_append, fl_cons, ← List.append_assoc]
           exact this
         have hx : (L.take i ++ (0, 0, 0) :: L.drop i)[i]? = some (0, 0, 0) := by
           rw [List.getElem?_append_right (by rw [List.length_take]; omega), List.length_take, Nat.min_eq_left hil, Nat.sub_self]
           rfl
         have hbase := fun k hk => own_base' hown3 (k := k) hk
         have hst : (L.take i ++ (0, 0, 0) :: L.drop i).set i (pid, 1, 0) = L.take i ++ (pid, 1, 0) :: L.drop i := by
           rw [List.set_append_right _ _ (by rw [List.length_take]; omega)]
           simp [Nat.min_eq_left hil]
         have HST := Lib.hid hst
         clear hst hown3 hM3 hb3 hn
         generalize (L.take i ++ (0, 0, 0) :: L.drop i) = L3 at hR3 hx hbase HST ⊢
         obtain ⟨g3, cap3, he, _, _, _, _⟩ := hR3.at_ hx
         injection he with he1 he2 he3
         subst he1
         have fw0 := Row3.free hR3 (i * 3)
         have fw1 := Row3.free hR3 (i * 3 + 1)
         have fw2 := Row3.free hR3 (i * 3 + 2)
         have hb3 := (HEa.out.trans hE3).keep HH.out.blk
         have hba := heap_lt (HEa.out.keep HH.out.blk)
         have hg3 := hbase g3 rfl
         have hblk4 : (w3.setCell ⟨b, 0, none⟩ (.slice (some ⟨g3, 0, none⟩) L3.length sc4)).heap[b]? = some (.cells #[.slice (some ⟨g3, 0, none⟩) L3.length sc4, .int .i64 last] 29 (0, 0)) := by
           simpa using heap_set (o := 0) hb3 (.slice (some ⟨g3, 0, none⟩) L3.length sc4)
         have hR4 := hR3.keep ((Mod.refl (fun k => k = b) w3).setCell (p := ⟨b, 0, none⟩) (.inl rfl) (.slice (some ⟨g3, 0, none⟩) L3.length sc4)) (fun k hk e => by have := hbase k hk; omega)
         obtain ⟨g5, cap5, he5, _, q0, q1, q2⟩ := hR4.at_ hx
         injection he5 with he5 _ hc5
         injection he5 with he5
         injection he5 with he5
         subst he5
         subst hc5
         have f0 := Row3.free hR4 (i * 3)
         have f1 := Row3.free hR4 (i * 3 + 1)
         have f2 := Row3.free hR4 (i * 3 + 2)
         have c4 := cell_of_heap hb3 0
         have c5 := cell_of_heap hblk4 0
         have d4 := free_of_heap hb3 0
         simp only [List.getElem?_toArray, List.getElem?_cons_zero] at c4 c5
         have hi3 : i < L3.length := (List.getElem?_eq_some_iff.1 hx).1
         have hi3' : (i : Int) < (L3.length : Int) := by omega
         have HR4 := Lib.hid hR4
         have HB4 := Lib.hid hblk4
         have HE3 := Lib.hid hE3
         clear hR3 hR4 hblk4 hb3 hbase hE3 hx he2 he3)
      | fail)
    go_end0
    refine ⟨⟨_, rfl⟩, .slice (some ⟨g3, 0, none⟩) L3.length sc4, L3.set i (pid, 1, 0), ⟨?_, HR4.out.set hi3 (pid, 1, 0)⟩, by rw [HST.out], ?_, fun k hk => ?_⟩
    · exact (set3r_mod (F := fun k => k = g3) (Mod.refl _ _) (.inl rfl) i (pid, 1, 0)).keep HB4.out (fun e => by omega)
    · have hs := Ext.size HEa.out
      exact set3r_mod ((mod_of_ext (HEa.out.trans HE3.out)).setCell (p := ⟨b, 0, none⟩) (.inl (.inl rfl)) _) (.inr (by omega)) i (pid, 1, 0)
    · have hs := Ext.size HEa.out
      have : k = g3 := (Option.some.inj hk).symm
      exact .inr (by omega)
  · subst hv
    have s1 : (i : Int) ≤ (capa : Int) := by omega
    have s2 : (i : Int) ≤ (L.length : Int) := by omega
    have s3 : (L.length : Int) ≤ (capa : Int) := by omega
    have hl1 : (fl (L.take i)).length = i * 3 := by rw [fl_length, List.length_take, Nat.min_eq_left hil]
    have hl2 : (fl (L.drop i)).length = (L.length - i) * 3 := by rw [fl_length, List.length_drop]
    obtain ⟨so3, hso3, htail⟩ := tail3 ga capa i HH.out.row hcap
    have HT := Lib.hid htail
    clear htail
    go_enter Try.func35, Try.ntmps35
    go_wp2_with (first
      | (go_at_call 40; (with_reducible refine hf.mono ?_); rintro e wa ⟨rfl, hEa⟩; obtain ⟨c0, c1, d0, d1⟩ := (HH.out.ext hEa).cells; have c0' := (HH.out.ext (hEa.alloc (.cells #[] 36))).cells.1; have HEa := Lib.hid hEa; clear hEa)
      | (at_builtin
         refine wpList_app rfl (.tmp 15) (.tmp 21) 27 rfl wa.heap.size 36 i0 (.agg #[.int .i64 0, .int .i64 0, .int .i64 0]) 3 24 Try.underlying27 hi hz0 hz1 hz2 rfl (by decide) _ 0 [] rfl (fresh_at (Nat.le_refl _) (heap_alloc_new wa _)) (some ⟨ga, 0, none⟩) i capa (fl (L.take i)) rfl hl1 ((src_take HH.out.row i).ext (HEa.out.alloc _)) (fl_ones _) (by omega) (by decide) (by simp) ?_
         intro so1 sc1 w1 hown1 hM1 hb1
         rw [Nat.zero_add, List.nil_append] at hown1
         rw [Nat.zero_add] at hb1
         have hE1 : Ext wa w1 := ext_of_mod ((Ext.refl wa).alloc _) hM1 (fun k e => Nat.le_of_eq (Option.some.inj e).symm)
         have HO1 := Lib.hid hown1
         have HM1 := Lib.hid hM1
         have HB1 := Lib.hid hb1
         have HE1 := Lib.hid hE1
         have c2 := ((HH.out.ext HEa.out).ext hE1).cells.1
         clear hown1 hM1 hb1 hE1)
      | (at_builtin
         refine wpList_app rfl (.tmp 22) (.tmp 24) 27 rfl wa.heap.size 36 i0 (.agg #[.int .i64 0, .int .i64 0, .int .i64 0]) 3 24 Try.underlying27 hi hz0 hz1 hz2 rfl (by decide) _ i (fl (L.take i)) rfl (HO1.out.alloc _) (some ⟨w1.heap.size, 0, none⟩) 1 1 [.int .i64 0, .int .i64 0, .int .i64 0] rfl rfl (src_new w1) (by simp [Value.oneCell']) (by omega) (by decide) (by have := Ext.size HE1.out; simp; omega) ?_
         intro so2 sc2 w2 hown2 hM2 hb2
         have hE2 : Ext wa w2 := ext_of_mod (HE1.out.alloc _) hM2 (fun k e => own_base' HO1.out e.symm)
         have HO2 := Lib.hid hown2
         have HE2 := Lib.hid hE2
         have c3 := ((HH.out.ext HEa.out).ext hE2).cells.1
         clear hown2 hM2 hb2 hE2)
      | (at_builtin
         refine wpList_app rfl (.tmp 27) (.tmp 33) 27 rfl wa.heap.size 36 i0 (.agg #[.int .i64 0, .int .i64 0, .int .i64 0]) 3 24 Try.underlying27 hi hz0 hz1 hz2 rfl (by decide) (.slice so2 (i + 1) sc2) (i + 1) (fl (L.take i) ++ [.int .i64 0, .int .i64 0, .int .i64 0]) rfl HO2.out so3 (L.length - i) (capa - i) (fl (L.drop i)) rfl hl2 (HT.out.ext (HEa.out.trans HE2.out)) (fl_ones _) (by omega) (by decide) (Ext.size HE2.out) ?_
         intro so4 sc4 w3 hown3 hM3 hb3
         have hE3 : Ext wa w3 := ext_of_mod HE2.out hM3 (fun k e => own_base' HO2.out e.symm)
         have hn : i + 1 + (L.length - i) = (L.take i ++ (0, 0, 0) :: L.drop i).length := by simp; omega
         rw [hn] at hown3 ⊢
         have hR3 : Row3 w3 (.slice so4 (L.take i ++ (0, 0, 0) :: L.drop i).length sc4) (L.take i ++ (0, 0, 0) :: L.drop i) := by
           unfold Row3
           have := own_zero hown3
           rw [fl_append, fl_cons, ← List.append_assoc]
           exact this
         have hx : (L.take i ++ (0, 0, 0) :: L.drop i)[i]? = some (0, 0, 0) := by
           rw [List.getElem?_append_right (by rw [List.length_take]; omega), List.length_take, Nat.min_eq_left hil, Nat.sub_self]
           rfl
         have hbase := fun k hk => own_base' hown3 (k := k) hk
         have hst : (L.take i ++ (0, 0, 0) :: L.drop i).set i (pid, 1, 0) = L.take i ++ (pid, 1, 0) :: L.drop i := by
           rw [List.set_append_right _ _ (by rw [List.length_take]; omega)]
           simp [Nat.min_eq_left hil]
         have HST := Lib.hid hst
         clear hst hown3 hM3 hb3 hn
         generalize (L.take i ++ (0, 0, 0) :: L.drop i) = L3 at hR3 hx hbase HST ⊢
         obtain ⟨g3, cap3, he, _, _, _, _⟩ := hR3.at_ hx
         injection he with he1 he2 he3
         subst he1
         have fw0 := Row3.free hR3 (i * 3)
         have fw1 := Row3.free hR3 (i * 3 + 1)
         have fw2 := Row3.free hR3 (i * 3 + 2)
         have hb3 := (HEa.out.trans hE3).keep HH.out.blk
         have hba := heap_lt (HEa.out.keep HH.out.blk)
         have hg3 := hbase g3 rfl
         have hblk4 : (w3.setCell ⟨b, 0, none⟩ (.slice (some ⟨g3, 0, none⟩) L3.length sc4)).heap[b]? = some (.cells #[.slice (some ⟨g3, 0, none⟩) L3.length sc4, .int .i64 last] 29 (0, 0)) := by
           simpa using heap_set (o := 0) hb3 (.slice (some ⟨g3, 0, none⟩) L3.length sc4)
         have hR4 := hR3.keep ((Mod.refl (fun k => k = b) w3).setCell (p := ⟨b, 0, none⟩) (.inl rfl) (.slice (some ⟨g3, 0, none⟩) L3.length sc4)) (fun k hk e => by have := hbase k hk; omega)
         obtain ⟨g5, cap5, he5, _, q0, q1, q2⟩ := hR4.at_ hx
         injection he5 with he5 _ hc5
         injection he5 with he5
         injection he5 with he5
         subst he5
         subst hc5
         have f0 := Row3.free hR4 (i * 3)
         have f1 := Row3.free hR4 (i * 3 + 1)
         have f2 := Row3.free hR4 (i * 3 + 2)
         have c4 := cell_of_heap hb3 0
         have c5 := cell_of_heap hblk4 0
         have d4 := free_of_heap hb3 0
         simp only [List.getElem?_toArray, List.getElem?_cons_zero] at c4 c5
         have hi3 : i < L3.length := (List.getElem?_eq_some_iff.1 hx).1
         have hi3' : (i : Int) < (L3.length : Int) := by omega
         have HR4 := Lib.hid hR4
         have HB4 := Lib.hid hblk4
         have HE3 := Lib.hid hE3
         clear hR3 hR4 hblk4 hb3 hbase hE3 hx he2 he3)
      | fail)
    go_end0
    refine ⟨⟨_, rfl⟩, .slice (some ⟨g3, 0, none⟩) L3.length sc4, L3.set i (pid, 1, 0), ⟨?_, HR4.out.set hi3 (pid, 1, 0)⟩, by rw [HST.out], ?_, fun k hk => ?_⟩
    · exact (set3r_mod (F := fun k => k = g3) (Mod.refl _ _) (.inl rfl) i (pid, 1, 0)).keep HB4.out (fun e => by omega)
    · have hs := Ext.size HEa.out
      exact set3r_mod ((mod_of_ext (HEa.out.trans HE3.out)).setCell (p := ⟨b, 0, none⟩) (.inl (.inl rfl)) _) (.inr (by omega)) i (pid, 1, 0)
    · have hs := Ext.size HEa.out
      have : k = g3 := (Option.some.inj hk).symm
      exact .inr (by omega)

end Go.Proofs.Ytoofhccjjhhipaa
