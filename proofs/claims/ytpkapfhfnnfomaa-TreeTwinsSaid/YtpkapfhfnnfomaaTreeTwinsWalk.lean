/- TreeTwins' walk. -/
import Derived.Test.YtpkapfhfnnfomaaTreeTwinsInv
import Derived.Deep.DeepCutAuto
import Derived.Outline
namespace Go.Proofs.Ytpkapfhfnnfomaa
open Go.RowKit Go.Shelf
attribute [local irreducible] Ext
attribute [local go_sem] Oper.semAt_some

theorem ActsAt.ext {B : Nat} {w w' : World} {v : Value} {l : List (Int × Int × Int)} (h : ArgActs B w v l) (hM : Below B w w') : ArgActs B w' v l := by
  obtain ⟨so, cap, rfl, hc⟩ := h
  refine ⟨so, cap, rfl, fun i x hx => ?_⟩
  obtain ⟨b, o, e, hb, h0, h1, h2⟩ := hc i x hx
  exact ⟨b, o, e, hb, (hM.cell (p := ⟨b, o + i * 3, none⟩) hb).trans h0, (hM.cell (p := ⟨b, o + i * 3 + 1, none⟩) hb).trans h1, (hM.cell (p := ⟨b, o + i * 3 + 2, none⟩) hb).trans h2⟩

set_option maxRecDepth 100000 in
set_option maxHeartbeats 8000000 in
theorem treeTwins_any (a0 a1 a2 : Option Addr) (cap0 cap1 cap2 : Nat) (l0 l1 l2 : List (Int × Int × Int)) (stop : Int) (w : World)
    (h0 : ArgActs w.heap.size w (.slice a0 l0.length cap0) l0) (h1 : ArgActs w.heap.size w (.slice a1 l1.length cap1) l1) (h2 : ArgActs w.heap.size w (.slice a2 l2.length cap2) l2)
    (hl0 : ∀ x ∈ l0, -9223372036854775808 ≤ x.2.1 ∧ x.2.1 ≤ 9223372036854775807) (hl1 : ∀ x ∈ l1, -9223372036854775808 ≤ x.2.1 ∧ x.2.1 ≤ 9223372036854775807) (hl2 : ∀ x ∈ l2, -9223372036854775808 ≤ x.2.1 ∧ x.2.1 ≤ 9223372036854775807) :
    Calls Try.prog 6 #[.slice a0 l0.length cap0, .slice a1 l1.length cap1, .slice a2 l2.length cap2, .int .i64 stop] w fun e w' => e = .returned (.bool true) ∧ Below w.heap.size w w' := by
  have H0 := Lib.hid h0
  have H1 := Lib.hid h1
  have H2 := Lib.hid h2
  have L0 := Lib.hid hl0
  have L1 := Lib.hid hl1
  have L2 := Lib.hid hl2
  clear h0 h1 h2 hl0 hl1 hl2
  refine (callsIn_wide (n := 3)).1 ?_
  refine callsIn_of_wp_marks Try.func6 rfl trivial ?_ rfl
  simp only [Try.ntmps6, List.size_toArray, List.length_cons, List.length_nil, Nat.reduceAdd, Nat.reduceSub, Array.replicate_succ, Array.replicate_zero, List.push_toArray, List.append_toArray, List.nil_append, List.cons_append]
  refine wpIn_wide.2 ?_
  have hkn := known_any ((w.alloc (.cells #[.int .i64 stop] 3)).alloc (.cells #[.bool false] 4))
  go_wp2_with fail
  refine hkn.mono ?_
  rintro e w1 ⟨rfl, hM1⟩
  clear hkn
  have hB1 : Below w.heap.size w w1 := (((Below.refl _ w).alloc (Nat.le_refl _) _).alloc (by simp) _).trans (hM1.below (by simp; omega) (fun _ h => h.elim))
  have hS1 : Boxed w1 w.heap.size 3 (.int .i64 stop) := hM1.keep ((Boxed.new w 3 (.int .i64 stop)).alloc _) (fun h => h)
  have hR1 : Boxed w1 (w.heap.size + 1) 4 (.bool false) := by
    have := Boxed.new (w.alloc (.cells #[.int .i64 stop] 3)) 4 (.bool false)
    rw [World.size_alloc] at this
    exact hM1.keep this (fun h => h)
  have c1 := hR1.cell
  have f1 := hR1.frozen
  clear hM1
  by_cases hbig : 500 < l0.length
  · have hb1 : decide ((500 : Int) < (l0.length : Int)) = true := decide_eq_true (by omega)
    clear hbig
    go_wp2_with fail
    exact ret_at0 hR1 rfl hB1 (by omega)
  have hb1 : decide ((500 : Int) < (l0.length : Int)) = false := decide_eq_false (by omega)
  by_cases hbig1 : 500 < l1.length
  · have hb2 : decide ((500 : Int) < (l1.length : Int)) = true := decide_eq_true (by omega)
    clear hbig hbig1
    go_wp2_with fail
    exact ret_at0 hR1 rfl hB1 (by omega)
  have hb2 : decide ((500 : Int) < (l1.length : Int)) = false := decide_eq_false (by omega)
  by_cases hbig2 : 500 < l2.length
  · have hb3 : decide ((500 : Int) < (l2.length : Int)) = true := decide_eq_true (by omega)
    clear hbig hbig1 hbig2
    go_wp2_with fail
    exact ret_at0 hR1 rfl hB1 (by omega)
  have hb3 : decide ((500 : Int) < (l2.length : Int)) = false := decide_eq_false (by omega)
  have HZ : Hid (l0.length ≤ 500 ∧ l1.length ≤ 500 ∧ l2.length ≤ 500) := Lib.hid ⟨by omega, by omega, by omega⟩
  clear hbig hbig1 hbig2
  go_wp2_with fail
  refine (new_any _).mono ?_
  rintro e w2 ⟨rfl, ht2, hE2⟩
  obtain ⟨tb, htb⟩ : ∃ tb, w1.heap.size = tb := ⟨_, rfl⟩
  rw [htb] at ht2 ⊢
  have htlt : tb < w2.heap.size := by
    obtain ⟨p, hp⟩ := ht2.blk
    exact heap_lt hp
  have hP2 : Pair (w.heap.size + 2) (w2.alloc (.cells #[.slice none 0 0, .slice none 0 0] 38)) tb w2.heap.size (.slice none 0 0) (.slice none 0 0) .nil := by
    refine ⟨TreeAt.ext ((Ext.refl w2).alloc _) ht2, ⟨heap_alloc_new w2 _, World.ownsRow_nil _ _ _ _, World.ownsRow_nil _ _ _ _, fun k h => by cases h⟩, ?_, trivial, trivial, fun _ h => by cases h⟩
    have := hR1.lt
    have := hS1.lt
    rintro k (rfl | rfl | e | e)
    · omega
    · omega
    · cases e
    · cases e
  have hEE : Ext w1 (w2.alloc (.cells #[.slice none 0 0, .slice none 0 0] 38)) := hE2.alloc _
  have hS2 := hEE.keep hS1
  have hR2 := hEE.keep hR1
  have hB2 := hB1.trans (hEE.below.mono hB1.size)
  clear ht2 hE2 hEE hS1 hR1 hB1 htb c1 f1 hb1 hb2 hb3
  have h0 := ActsAt.ext H0.out hB2
  have hd := done_pair hP2 (A := w.heap.size) (by omega) h0 L0.out (by have := HZ.out; omega) (by decide)
  have HS := Lib.hid hS2
  have HR := Lib.hid hR2
  have HB := Lib.hid hB2
  have HP := Lib.hid hP2
  clear h0 hS2 hR2 hB2 hP2 H0 L0
  obtain ⟨w3, hw3⟩ : ∃ w3, (w2.alloc (.cells #[.slice none 0 0, .slice none 0 0] 38)) = w3 := ⟨_, rfl⟩
  obtain ⟨rb, hrb⟩ : ∃ rb, w2.heap.size = rb := ⟨_, rfl⟩
  rw [hw3] at hd HS HR HB HP
  rw [hrb] at hd HP
  have HW := Lib.hid hw3
  have HRB := Lib.hid hrb
  clear hw3 hrb
  go_wp2_with fail
  rw [HW.out, HRB.out]
  refine hd.mono ?_
  rintro e w4 ⟨⟨v4, rfl⟩, kv, vv, t, hP4, hm4, hM4, hb4⟩
  obtain ⟨p, htp, htt⟩ := hP4.tree
  have cp := cell_of_heap htp 0
  simp only [List.getElem?_toArray, List.getElem?_cons_zero] at cp
  have hlt0 := fun k hk => HP.out.lt k hk
  have hAll := allT_any w4 cp
  have hHB4 : Below w.heap.size w w4 := HB.out.trans (hM4.below HB.out.size (fun k hk => by have := HP.out.base k hk; omega))
  have hS4 : Boxed w4 w.heap.size 3 (.int .i64 stop) := hM4.keep HS.out (fun hk => by have := HP.out.base _ hk; omega)
  have hR4 : Boxed w4 (w.heap.size + 1) 4 (.bool false) := hM4.keep HR.out (fun hk => by have := HP.out.base _ hk; omega)
  have HT := Lib.hid (And.intro htp htt)
  clear htp htt hlt0 cp hd HS HR HB HP HW HRB hM4 hb4 htlt
  clear w2 w3
  go_wp2_with fail
  refine hAll.mono ?_
  rintro e w' ⟨rfl, rfl⟩
  clear hAll
  obtain ⟨hbs, hbk, hbt, hbE⟩ := boxed_facts w4 (-9223372036854775808) p
  have hQ5 : SeqAt (boxed w4 (-9223372036854775808) p) w4.heap.size (w4.heap.size + 1) p t := ⟨hbk, hbt, HT.out.2.ext hbE⟩
  have hP5 := hP4.ext hbE
  have hS5 := hbE.keep hS4
  have hR5 := hbE.keep hR4
  have hB5 := hHB4.trans (hbE.below.mono hHB4.size)
  obtain ⟨nb, hnb⟩ : ∃ nb, w4.heap.size = nb := ⟨_, rfl⟩
  have hblk5 : ∀ k, Blk tb rb kv vv k → k < nb := fun k hk => hnb ▸ hP4.lt k hk
  rw [hnb] at hQ5 hbs ⊢
  generalize boxed w4 (-9223372036854775808) p = wa at hbs hQ5 hP5 hS5 hR5 hB5 ⊢
  have HQ := Lib.hid hQ5
  have HP := Lib.hid hP5
  have HS := Lib.hid hS5
  have HR := Lib.hid hR5
  have HB := Lib.hid hB5
  have HK := Lib.hid hblk5
  have HBS := Lib.hid hbs
  clear hbk hbt hbE hQ5 hP5 hS5 hR5 hB5 hblk5 hbs hP4 hS4 hR4 hHB4 hnb HT
  clear w4
  have hc0 : ∀ w', Ext wa w' → w'.cell? ⟨rb, 0, none⟩ = some kv := by
    intro w' hE
    have := cell_of_heap (hE.keep HP.out.doc.blk) 0
    simpa using this
  have hc1 : ∀ w', Ext wa w' → w'.cell? ⟨rb, 1, none⟩ = some vv := by
    intro w' hE
    have := cell_of_heap (hE.keep HP.out.doc.blk) 1
    simpa using this
  have hE0 := Ext.refl wa
  have ho1 : ∀ u ∈ t.list.map (fun x => Value.int .i64 x.1), u.oneCell' = true := by
    intro u hu
    obtain ⟨x, _, rfl⟩ := List.mem_map.1 hu
    rfl
  have ho2 : ∀ u ∈ t.list.map (fun x => Value.int .i64 x.2), u.oneCell' = true := by
    intro u hu
    obtain ⟨x, _, rfl⟩ := List.mem_map.1 hu
    rfl
  have hln : t.list.length ≤ 1000000000 := by
    have := Tr.many_list t
    have := HZ.out
    simp only [Tr.many] at hm4
    omega
  obtain ⟨i0, hi, hz0, hz1, hz2⟩ := info_parts info_int
  have HM := Lib.hid hm4
  clear hm4
  go_upto_region 11 with (fail)
  go_cut [12] from 45 (fun v wx => CopyAt wa t.list v wx)
  case first =>
    go_region_held3 (fun w' => Ext wa w') (first | assumption | (repeat (first | assumption | apply Ext.drew | apply Ext.alloc | (refine Ext.setCell ?_ ?_ _; rotate_left; · first | omega | (simp; omega) | (simp; done)))))
      (first
        | (refine step_copy (by rfl) _ _ 33 (by rfl) 3 i0 (.int .i64 0) 8 Try.underlying33 hi hz0 hz1 hz2 rfl HP.out.doc.keys ?_ _ (by rfl) ?_ ?_ ?_ ho1 hln (by decide) ?_
           rotate_left 3
           · rfl
           rotate_right 3
           · (repeat (first | assumption | apply Ext.drew | apply Ext.alloc))
           · first | omega | (simp; done) | (simp; omega)
           · ((try simp only [drew_at, alloc_at, World.size_alloc, if_true]) <;> (repeat' split) <;> first | rfl | (exfalso; omega) | contradiction)
           intro so1 sc1 w1 hown1 hM1 hE1 hb1
           try
             (refine (fun hv0 : VarAt w1 (wa.heap.size) => ?_) ?_
              rotate_left
              · (refine VarAt.mod ?_ hM1 ?_
                 rotate_left
                 · omega
                 unfold VarAt
                 (try simp only [drew_at, alloc_at, World.size_alloc, if_true]) <;> (repeat' split) <;> first | rfl | (exfalso; omega) | contradiction))
           try
             (refine (fun hv1 : VarAt w1 (wa.heap.size + 1) => ?_) ?_
              rotate_left
              · (refine VarAt.mod ?_ hM1 ?_
                 rotate_left
                 · omega
                 unfold VarAt
                 (try simp only [drew_at, alloc_at, World.size_alloc, if_true]) <;> (repeat' split) <;> first | rfl | (exfalso; omega) | contradiction))
           try
             (refine (fun hv2 : VarAt w1 (wa.heap.size + 1 + 1) => ?_) ?_
              rotate_left
              · (refine VarAt.mod ?_ hM1 ?_
                 rotate_left
                 · omega
                 unfold VarAt
                 (try simp only [drew_at, alloc_at, World.size_alloc, if_true]) <;> (repeat' split) <;> first | rfl | (exfalso; omega) | contradiction)))
        | (refine step_copy (by rfl) _ _ 33 (by rfl) 3 i0 (.int .i64 0) 8 Try.underlying33 hi hz0 hz1 hz2 rfl HP.out.doc.vals ?_ _ (by rfl) ?_ ?_ ?_ ho2 hln (by decide) ?_
           rotate_left 3
           · rfl
           rotate_right 3
           · (repeat (first | assumption | apply Ext.drew | apply Ext.alloc))
           · (have := Ext.size hE1; first | omega | (simp; omega) | (simp; done))
           · (have e1 := Ext.size hE1
              have e2 := hM1.size
              (try simp only [drew_size, World.size_alloc] at e2)
              (try simp only [alloc_at, World.size_alloc, if_true]) <;> (repeat' split) <;> first | rfl | (exfalso; omega) | contradiction | (refine (hM1.block _ ?_ ?_).trans ?_ <;> first | omega | (simp; done) | (simp; omega) | ((try simp only [drew_at, alloc_at, World.size_alloc, if_true]) <;> (repeat' split) <;> first | rfl | (exfalso; omega) | contradiction)))
           intro so2 sc2 w2 hown2 hM2 hE2 hb2
           have e1 := Ext.size hE1
           have e3 := hM1.size
           (try simp only [World.size_alloc, drew_size] at e3)
           have hkk : w2.ownsRow wa.heap.size 3 1 (.slice so1 t.list.length sc1) t.list.length (t.list.map fun x => .int .i64 x.1) := by
             refine own_keep hM2 (own_keep (F := fun _ => False) ?_ hown1 (fun _ _ h => h)) ?_
             · (repeat (first | exact Mod.refl _ _ | apply Mod.alloc | apply Mod.drew))
             · intro k hk e
               have := hb1 k hk
               (try simp only [World.size_alloc, drew_size] at this)
               omega
           have hap : ∀ k, (Value.slice so1 t.list.length sc1).ownBlock = some k → (Value.slice so2 t.list.length sc2).ownBlock ≠ some k := by
             intro k hk hk2
             have a1 := hb1 k hk
             have a2 := hb2 k hk2
             (try simp only [World.size_alloc, drew_size] at a1 a2)
             omega
           have e2 := Ext.size hE2
           clear hown1 hb1 hb2
           try
             (refine (fun hu0 : VarAt w2 (wa.heap.size) => ?_) ?_
              rotate_left
              · (have e0 := hM1.size
                 (try simp only [World.size_alloc, drew_size] at e0)
                 have e1 := heap_lt hv0
                 refine VarAt.mod ?_ hM2 ?_
                 rotate_left
                 · first | omega | (simp; omega) | (simp; done)
                 unfold VarAt
                 (try simp only [alloc_at]) <;> (repeat' split) <;> first | exact hv0 | rfl | (exfalso; omega) | contradiction)
              obtain ⟨cc, ff, nn, cf⟩ := VarAt.new hu0
              have cc1 := (cf (.cells #[.slice so1 t.list.length sc1, .slice so2 t.list.length sc2] 38)).1
              have cc2 := (cf (.cells #[.slice so1 t.list.length sc1, .slice so2 t.list.length sc2] 38)).2
              clear cf)
           try
             (refine (fun hu1 : VarAt w2 (wa.heap.size + 1) => ?_) ?_
              rotate_left
              · (have e0 := hM1.size
                 (try simp only [World.size_alloc, drew_size] at e0)
                 have e1 := heap_lt hv1
                 refine VarAt.mod ?_ hM2 ?_
                 rotate_left
                 · first | omega | (simp; omega) | (simp; done)
                 unfold VarAt
                 (try simp only [alloc_at]) <;> (repeat' split) <;> first | exact hv1 | rfl | (exfalso; omega) | contradiction)
              obtain ⟨cc, ff, nn, cf⟩ := VarAt.new hu1
              have cc1 := (cf (.cells #[.slice so1 t.list.length sc1, .slice so2 t.list.length sc2] 38)).1
              have cc2 := (cf (.cells #[.slice so1 t.list.length sc1, .slice so2 t.list.length sc2] 38)).2
              clear cf)
           try
             (refine (fun hu2 : VarAt w2 (wa.heap.size + 1 + 1) => ?_) ?_
              rotate_left
              · (have e0 := hM1.size
                 (try simp only [World.size_alloc, drew_size] at e0)
                 have e1 := heap_lt hv2
                 refine VarAt.mod ?_ hM2 ?_
                 rotate_left
                 · first | omega | (simp; omega) | (simp; done)
                 unfold VarAt
                 (try simp only [drew_at, drew_size, alloc_at, World.size_alloc, if_true]) <;> (repeat' split) <;> first | exact hv2 | rfl | (exfalso; omega) | contradiction)
              obtain ⟨cc, ff, nn, cf⟩ := VarAt.new hu2
              have cc1 := (cf (.cells #[.slice so1 t.list.length sc1, .slice so2 t.list.length sc2] 38)).1
              have cc2 := (cf (.cells #[.slice so1 t.list.length sc1, .slice so2 t.list.length sc2] 38)).2
              clear cf)
           try
             (refine (fun hu3 : VarAt w2 (w1.heap.size) => ?_) ?_
              rotate_left
              · (have e0 := hM1.size
                 (try simp only [World.size_alloc, drew_size] at e0)
                 refine VarAt.mod ?_ hM2 ?_
                 rotate_left
                 · first | omega | (simp; omega) | (simp; done)
                 unfold VarAt
                 (try simp only [alloc_at, World.size_alloc, if_true]) <;> (repeat' split) <;> first | exact rfl | rfl | (exfalso; omega) | contradiction)
              obtain ⟨cc, ff, nn, cf⟩ := VarAt.new hu3
              have cc1 := (cf (.cells #[.slice so1 t.list.length sc1, .slice so2 t.list.length sc2] 38)).1
              have cc2 := (cf (.cells #[.slice so1 t.list.length sc1, .slice so2 t.list.length sc2] 38)).2
              clear cf)
           try
             (refine (fun hu4 : VarAt w2 (w1.heap.size + 1) => ?_) ?_
              rotate_left
              · (have e0 := hM1.size
                 (try simp only [World.size_alloc, drew_size] at e0)
                 refine VarAt.mod ?_ hM2 ?_
                 rotate_left
                 · first | omega | (simp; omega) | (simp; done)
                 unfold VarAt
                 (try simp only [alloc_at, World.size_alloc, if_true]) <;> (repeat' split) <;> first | exact rfl | rfl | (exfalso; omega) | contradiction)
              obtain ⟨cc, ff, nn, cf⟩ := VarAt.new hu4
              have cc1 := (cf (.cells #[.slice so1 t.list.length sc1, .slice so2 t.list.length sc2] 38)).1
              have cc2 := (cf (.cells #[.slice so1 t.list.length sc1, .slice so2 t.list.length sc2] 38)).2
              clear cf))
        | fail)
    all_goals go_wp2
    all_goals go_meet
    all_goals first
      | (with_reducible exact copy_ii hkk hown2 hap hE2)
      | (with_reducible exact copy_iii hkk hown2 hap hE2)
      | exact copy_i hkk hown2 hap hE2 (by assumption) (by omega)
  case rest =>
    obtain ⟨vb, wb, kw, vw, rfl, hEc, hbx, hrc, hvb, hblk⟩ := hcut
    obtain ⟨wp, rfl⟩ : ∃ wp : World, wp = wc := ⟨_, rfl⟩
    have hP6 := HP.out.ext hEc
    have hT6 := twin_any wp hP6.tree
    have hQ6 := HQ.out.ext hEc
    have hS6 := hEc.keep HS.out
    have hR6 := hEc.keep HR.out
    have hB6 := HB.out.trans (hEc.below.mono HB.out.size)
    have HX := Lib.hid hbx
    have HC := Lib.hid hrc
    have HV := Lib.hid hvb
    have HBC := Lib.hid hblk
    have HP6 := Lib.hid hP6
    have HQ6 := Lib.hid hQ6
    have HS6 := Lib.hid hS6
    have HR6 := Lib.hid hR6
    have HB6 := Lib.hid hB6
    have hsz := Ext.size hEc
    have HSZ := Lib.hid hsz
    clear hbx hrc hvb hblk hP6 hQ6 hS6 hR6 hB6 hsz hEc HP HQ HS HR HB hc0 hc1 hE0 ho1 ho2 
    go_wp2_with fail
    refine hT6.mono ?_
    rintro e wd ⟨rfl, hTd, hEd⟩
    clear hT6
    obtain ⟨ub, hub⟩ : ∃ ub, wp.heap.size = ub := ⟨_, rfl⟩
    rw [hub] at hTd ⊢
    have hPd := HP6.out.ext hEd
    have HPD := Lib.hid hPd
    have HTD := Lib.hid hTd
    have HED := Lib.hid hEd
    have HUB := Lib.hid hub
    have hc0 : ∀ w', Ext wd w' → w'.cell? ⟨rb, 0, none⟩ = some kv := by
      intro w' hE
      have := cell_of_heap (hE.keep HPD.out.doc.blk) 0
      simpa using this
    have hc1 : ∀ w', Ext wd w' → w'.cell? ⟨rb, 1, none⟩ = some vv := by
      intro w' hE
      have := cell_of_heap (hE.keep HPD.out.doc.blk) 1
      simpa using this
    have hE0 := Ext.refl wd
    have ho1 : ∀ u ∈ t.list.map (fun x => Value.int .i64 x.1), u.oneCell' = true := by
      intro u hu
      obtain ⟨x, _, rfl⟩ := List.mem_map.1 hu
      rfl
    have ho2 : ∀ u ∈ t.list.map (fun x => Value.int .i64 x.2), u.oneCell' = true := by
      intro u hu
      obtain ⟨x, _, rfl⟩ := List.mem_map.1 hu
      rfl
    clear hPd hTd hEd hub
    go_upto_region 13 with (fail)
    go_cut [14] from 61 (fun v wx => FreshAt wd t.list v wx)
    case first =>
      go_region_held3 (fun w' => Ext wd w') (first | assumption | (repeat (first | assumption | apply Ext.drew | apply Ext.alloc)))
        (first
          | (refine step_copy (by rfl) _ _ 33 (by rfl) 3 i0 (.int .i64 0) 8 Try.underlying33 hi hz0 hz1 hz2 rfl HPD.out.doc.keys ?_ _ (by rfl) ?_ ?_ ?_ ho1 hln (by decide) ?_
             rotate_left 3
             · rfl
             rotate_right 3
             · (repeat (first | assumption | apply Ext.drew | apply Ext.alloc))
             · first | omega | (simp; done) | (simp; omega)
             · ((try simp only [drew_at, alloc_at, World.size_alloc, if_true]) <;> (repeat' split) <;> first | rfl | (exfalso; omega) | contradiction)
             intro so1 sc1 w1 hown1 hM1 hE1 hb1)
          | (refine step_copy (by rfl) _ _ 33 (by rfl) 3 i0 (.int .i64 0) 8 Try.underlying33 hi hz0 hz1 hz2 rfl HPD.out.doc.vals ?_ _ (by rfl) ?_ ?_ ?_ ho2 hln (by decide) ?_
             rotate_left 3
             · rfl
             rotate_right 3
             · (repeat (first | assumption | apply Ext.drew | apply Ext.alloc))
             · (have := Ext.size hE1; first | omega | (simp; omega) | (simp; done))
             · (have e1 := Ext.size hE1
                have e2 := hM1.size
                (try simp only [drew_size, World.size_alloc] at e2)
                (try simp only [alloc_at, if_true]) <;> (repeat' split) <;> first | rfl | (exfalso; omega) | contradiction | (refine (hM1.block _ ?_ ?_).trans ?_ <;> first | omega | (simp; done) | (simp; omega) | ((try simp only [drew_at, alloc_at, World.size_alloc, if_true]) <;> (repeat' split) <;> first | rfl | (exfalso; omega) | contradiction)))
             intro so2 sc2 w2 hown2 hM2 hE2 hb2
             have e1 := Ext.size hE1
             have e3 := hM1.size
             (try simp only [World.size_alloc, drew_size] at e3)
             have hkk : w2.ownsRow wd.heap.size 3 1 (.slice so1 t.list.length sc1) t.list.length (t.list.map fun x => .int .i64 x.1) := by
               refine own_keep hM2 (own_keep (F := fun _ => False) ?_ hown1 (fun _ _ h => h)) ?_
               · (repeat (first | exact Mod.refl _ _ | apply Mod.alloc | apply Mod.drew))
               · intro k hk e
                 have := hb1 k hk
                 (try simp only [World.size_alloc, drew_size] at this)
                 omega
             have hap : ∀ k, (Value.slice so1 t.list.length sc1).ownBlock = some k → (Value.slice so2 t.list.length sc2).ownBlock ≠ some k := by
               intro k hk hk2
               have a1 := hb1 k hk
               have a2 := hb2 k hk2
               (try simp only [World.size_alloc, drew_size] at a1 a2)
               omega
             have e2 := Ext.size hE2
             clear hown1 hb1 hb2)
          | fail)
      all_goals go_wp2
      all_goals go_meet
      all_goals (with_reducible exact fresh_i hkk hown2 hap hE2)
    case rest =>
      obtain ⟨sb, ks, vs, rfl, hEs, hrs, hsblk⟩ := hcut
      obtain ⟨W1, rfl⟩ : ∃ W1 : World, W1 = wc := ⟨_, rfl⟩
      have hsd := Ext.size HED.out
      have hss := Ext.size hEs
      have hub := HUB.out
      have hbs := HBS.out
      have hsz := HSZ.out
      have hnu : nb + 2 ≤ ub := by omega
      have hP7 := HPD.out.ext hEs
      have hU7 : Pair ub W1 ub sb ks vs t := by
        refine ⟨TreeAt.ext hEs HTD.out, hrs, ?_, hP7.sorted, hP7.bal, hP7.keys⟩
        rintro k (rfl | rfl | e | e)
        · exact Nat.le_refl _
        · have := hsblk k (.inl rfl); omega
        · have := hsblk k (.inr (.inr (.inl e))); omega
        · have := hsblk k (.inr (.inr (.inr e))); omega
      have hEE : Ext wp W1 := HED.out.trans hEs
      have hX7 := hEE.keep HX.out
      have hC7 : RefAt W1 wb kw vw t.list := by
        unfold Ext at hEE
        exact HC.out.keep hEE (fun h => h) (fun _ _ h => h) (fun _ _ h => h)
      have hQ7 := HQ6.out.ext hEE
      have hS7 := hEE.keep HS6.out
      have hR7 := hEE.keep HR6.out
      have hB7 := HB6.out.trans (hEE.below.mono HB6.out.size)
      have hmt : t.many ≤ 500 := by
        have := HM.out
        have := HZ.out
        simp only [Tr.many] at *
        omega
      have hd1 := done_pair hP7 (A := w.heap.size) (by omega) (ActsAt.ext H1.out hB7) L1.out (by have := HZ.out; omega) (by omega)
      have hclt : ∀ k, Blk wb wb kw vw k → nb + 2 ≤ k ∧ k < ub := by
        intro k hk
        have := HBC.out k hk
        refine ⟨by omega, hub ▸ ?_⟩
        rcases hk with rfl | rfl | e | e
        · exact heap_lt HC.out.blk
        · exact heap_lt HC.out.blk
        · obtain ⟨cur, hc⟩ := own_blk HC.out.keys e.symm
          exact heap_lt hc
        · obtain ⟨cur, hc⟩ := own_blk HC.out.vals e.symm
          exact heap_lt hc
      have hvlt : nb + 2 ≤ vb ∧ vb < ub := ⟨by have := HV.out; omega, hub ▸ heap_lt HX.out⟩
      have hwnb : w.heap.size + 2 ≤ nb := by
        have h1 := HP6.out.base tb (.inl rfl)
        have h2 := HK.out tb (.inl rfl)
        omega
      have HP7 := Lib.hid hP7
      have HU7 := Lib.hid hU7
      have HX7 := Lib.hid hX7
      have HC7 := Lib.hid hC7
      have HQ7 := Lib.hid hQ7
      have HS7 := Lib.hid hS7
      have HR7 := Lib.hid hR7
      have HB7 := Lib.hid hB7
      have HCL := Lib.hid hclt
      clear hP7 hU7 hX7 hC7 hQ7 hS7 hR7 hB7 hclt hub hbs hsz hEE hEs hrs hsblk hsd hss hc0 hc1 hE0 ho1 ho2 hln HPD HTD HED HUB HX HC HV HBC HP6 HQ6 HS6 HR6 HB6 HSZ HBS L1 H1
      clear wd wp wa
      go_wp2_with fail
      refine hd1.mono ?_
      rintro e W2 ⟨⟨v5, rfl⟩, kv2, vv2, t2, hP8, hm8, hM8, hb8⟩
      clear hd1
      have hU8 : Pair ub W2 ub sb ks vs t := HU7.out.keep hM8 (fun k hk hk2 => by have h1 := HU7.out.base k hk; have h2 := HK.out k hk2; omega) HP7.out.no_node
      have hB8 : Below w.heap.size w W2 := HB7.out.trans (hM8.below HB7.out.size (fun k hk => by have := HP7.out.base k hk; omega))
      have hd2 := done_pair hU8 (A := w.heap.size) (by omega) (ActsAt.ext H2.out hB8) L2.out (by have := HZ.out; omega) (by omega)
      have HP8 := Lib.hid hP8
      have HU8 := Lib.hid hU8
      have HM8 := Lib.hid hM8
      have HE8 := Lib.hid hb8
      have HB8 := Lib.hid hB8
      clear hP8 hU8 hM8 hb8 hB8 H2 L2
      go_wp2_with fail
      refine hd2.mono ?_
      rintro e W3 ⟨⟨v6, rfl⟩, ks2, vs2, u2, hU9, hm9, hM9, hb9⟩
      clear hd2
      have hP9 : Pair (w.heap.size + 2) W3 tb rb kv2 vv2 t2 := HP8.out.keep hM9 (fun k hk hk2 => by
        have h1 := HU8.out.base k hk2
        have h2 := HU7.out.lt k hk2
        rcases HE8.out k hk with h3 | h3
        · have := HK.out k h3; omega
        · omega) HU8.out.no_node
      have hB9 : Below w.heap.size w W3 := HB8.out.trans (hM9.below HB8.out.size (fun k hk => by have := HU8.out.base k hk; omega))
      have hMM : Mod (fun k => Blk tb rb kv vv k ∨ Blk ub sb ks vs k) W1 W3 := (HM8.out.mono (fun k _ h => .inl h)).trans hM9 (fun k _ h => .inr h)
      have hFl : ∀ k, (Blk tb rb kv vv k ∨ Blk ub sb ks vs k) → (w.heap.size + 2 ≤ k ∧ k < nb) ∨ ub ≤ k := by
        rintro k (h | h)
        · exact .inl ⟨HP7.out.base k h, HK.out k h⟩
        · exact .inr (HU7.out.base k h)
      have hnn : ∀ k cs fr, (Blk tb rb kv vv k ∨ Blk ub sb ks vs k) → W1.heap[k]? ≠ some (.cells cs 55 fr) := by
        rintro k cs fr (h | h)
        · exact HP7.out.no_node k cs fr h
        · exact HU7.out.no_node k cs fr h
      have hX9 : Boxed W3 vb 36 (.pointer (some ⟨wb, 0, none⟩)) := hMM.keep HX7.out (fun h => by have := hFl _ h; omega)
      have hC9 : RefAt W3 wb kw vw t.list := HC7.out.keep hMM (fun h => by have h1 := hFl _ h; have h2 := HCL.out wb (.inl rfl); omega)
        (fun k hk h => by have h1 := hFl _ h; have h2 := HCL.out k (.inr (.inr (.inl hk.symm))); omega) (fun k hk h => by have h1 := hFl _ h; have h2 := HCL.out k (.inr (.inr (.inr hk.symm))); omega)
      have hQ9 : SeqAt W3 nb (nb + 1) p t := HQ7.out.keep hMM (fun h => by have := hFl _ h; omega) (fun h => by have := hFl _ h; omega) hnn
      have hS9 : Boxed W3 w.heap.size 3 (.int .i64 stop) := hMM.keep HS7.out (fun h => by have := hFl _ h; omega)
      have hR9 : Boxed W3 (w.heap.size + 1) 4 (.bool false) := hMM.keep HR7.out (fun h => by have := hFl _ h; omega)
      have hsq := HU7.out.sorted
      have hkq := HU7.out.keys
      have hm9' : t2.many ≤ 1000 ∧ u2.many ≤ 1000 := by have := HZ.out; omega
      have HP := Lib.hid hP9
      have HU := Lib.hid hU9
      have HX := Lib.hid hX9
      have HC := Lib.hid hC9
      have HQ := Lib.hid hQ9
      have HS := Lib.hid hS9
      have HR := Lib.hid hR9
      have HB := Lib.hid hB9
      have HSQ := Lib.hid hsq
      have HKQ := Lib.hid hkq
      have HMM := Lib.hid hm9'
      clear hb9 hP9 hU9 hX9 hC9 hQ9 hS9 hR9 hB9 hsq hkq hm9' hMM hFl hnn hM9 hm8 hm9 HP7 HU7 HX7 HC7 HQ7 HS7 HR7 HB7 HCL HP8 HU8 HM8 HE8 HB8 HK HZ HM
      clear W1 W2
      go_wp2_with fail
      refine wp_loop_rounds 3 ?_
      rw [rounds_succ]
      go_wp2_with fail
      refine (wpIn_wide (n := 3)).1 ?_
      have hL : overL (-9223372036854775808) t = t.list := overL_all HSQ.out HKQ.out
      have hst := HQ.out.stops 2
      rw [hL] at hst
      have HST := Lib.hid hst
      clear hst hL
      have hO0 : TwI W3 W3.heap.size (W3.heap.size + 1) 0 0 ((W3.alloc (.cells #[.int .i64 0] 3)).alloc (.cells #[.int .i64 0] 3)) := by
        have b0 := Boxed.new W3 3 (.int .i64 0)
        have b1 := Boxed.new (W3.alloc (.cells #[.int .i64 0] 3)) 3 (.int .i64 0)
        rw [World.size_alloc] at b1
        exact ⟨⟨b0.alloc _, b1⟩, ((Below.refl _ W3).alloc (Nat.le_refl _) _).alloc (by simp) _⟩
      have hNL : t.list.length ≤ 500 := by have := Tr.many_list t; omega
      have HSS := Lib.hid (And.intro HSQ.out HKQ.out)
      clear HSQ HKQ HQ hmt
      generalize t.list = L at HC HST hNL
      obtain ⟨w5, hw5⟩ : ∃ w5, (W3.alloc (.cells #[.int .i64 0] 3)).alloc (.cells #[.int .i64 0] 3) = w5 := ⟨_, rfl⟩
      have hs5 : w5.heap.size = W3.heap.size + 2 := by rw [← hw5]; simp
      rw [hw5] at hO0 ⊢
      clear hw5
      refine rangeF_mid rfl (by omega) (gf := 34) (lb := #[.pointer (some ⟨nb + 1, 0, none⟩), .pointer (some ⟨nb, 0, none⟩)]) rfl trivial (enters_of Try.func34 (by kernel_rfl) rfl)
        HST.out KeepT.trans (fun W l o o' hl hh hc _ => KeepT.putObj o' hh hc) hO0.2 (fun _ => rfl)
        (fun pre W => TwI W3 W3.heap.size (W3.heap.size + 1) 0 (pre.length : Int) W ∧ pre <+: L) 2 (fun W => ∃ q, TwI W3 W3.heap.size (W3.heap.size + 1) 0 q W) (fun pre => ¬ pre <+: L) (fun W => ∃ q, TwI W3 W3.heap.size (W3.heap.size + 1) 0 q W)
        (OwnFrom.and (twI_own W3 W3.heap.size (W3.heap.size + 1) 0 (fun pre : List (Int × Int) => (pre.length : Int)) (by omega)) (ownFrom_pure _ _))
        (fun s A C row hs hg hr => hs.elim fun q h => ⟨q, twI_own W3 W3.heap.size (W3.heap.size + 1) 0 (fun _ : Unit => q) (by omega) () A C row h hg hr⟩)
        ⟨hO0, List.nil_prefix⟩ ?ex (fun xs W _ h => ⟨_, h.1⟩) (fun W h => h) (fun pre h hz => hz h) ?brk ?next
      case ex =>
        apply Exists.intro
        apply And.intro
        · intro l x W K hK
          simp only [enc2]
          gi_wp2
          exact hK
        · rintro l pre x W ⟨hO, hpre⟩ hlt
          obtain ⟨y, hy⟩ : ∃ y, L[pre.length]? = some y := ⟨L[pre.length]'hlt, List.getElem?_eq_getElem hlt⟩
          have hps := prefix_snoc (x := x) hpre hy
          have hi := (List.getElem?_eq_some_iff.1 hy).1
          obtain ⟨gk, ck, gv, cv, r0, r1, r2, r3⟩ := (HC.out.later hO.2).reads hy
          have c0 := hO.1.1.cell
          have c1 := hO.1.2.cell
          have f1 := hO.1.2.frozen
          have x0 := (boxed_later HX.out hO.2).cell
          have y0 := (boxed_later HS.out hO.2).cell
          have z0 := (boxed_later HR.out hO.2).cell
          have z1 := (boxed_later HR.out hO.2).frozen
          have hiq : (pre ++ [x]).length = pre.length + 1 := by simp
          have HQQ := Lib.hid hiq
          obtain ⟨i, hii⟩ : ∃ i, pre.length = i := ⟨_, rfl⟩
          rw [hii] at hi r2 r3 c1
          have t1 : decide ((L.length : Int) ≤ (i : Int)) = false := decide_eq_false (by omega)
          have t1' : decide (L.length ≤ i) = false := decide_eq_false (by omega)
          have t2 : (0 : Int) ≤ (i : Int) := by omega
          have t3 : (i : Int) < (L.length : Int) := by omega
          have e1 : IntKind.i64.wrap ((i : Int) + 1) = ((i + 1 : Nat) : Int) := by rw [IntWalk.i64_in _ (by omega)]; rfl
          have HPP := Lib.hid hps
          have HO := Lib.hid hO
          have HI := Lib.hid hii
          clear hps hO hpre hy hlt hiq hii
          by_cases hk : x.1 = y.1
          · have b1 : (x.1 != y.1) = false := by simp [hk]
            by_cases hv : x.2 = y.2
            · have b2 : (x.2 != y.2) = false := by simp [hv]
              have hxy : y = x := Prod.ext hk.symm hv.symm
              have HEQ := Lib.hid hxy
              clear hxy hk hv
              by_cases hstop : stop < (i : Int) + 1
              · have b3 : decide (stop < (i : Int) + 1) = true := decide_eq_true hstop
                clear hstop
                gi_wp2
                refine wpIn_region_quiet_round rfl (by kernel_rfl) (by kernel_rfl) (by kernel_rfl) ?_
                repeat (gi_big_quiet_step (fail))
                refine wpQuietIn_nil ?_
                rintro _ ⟨nq, rfl⟩
                obtain ⟨s1, s2⟩ := (HO.out.drewN nq).step (by omega) (by omega) ((i : Int) + 1)
                have k0 := s1.1.1.cell
                have k1 := s1.1.2.cell
                have k2 := (boxed_later HS.out s1.2).cell
                have S1 := Lib.hid s1
                clear s1 s2
                gi_wp2
                exact ⟨(ko_drewN W nq).trans (KeepsOthers.setCell _ _ _), .inl ⟨rfl, _, S1.out⟩⟩
              · have b3 : decide (stop < (i : Int) + 1) = false := decide_eq_false hstop
                clear hstop
                gi_wp2
                refine wpIn_region_quiet_round rfl (by kernel_rfl) (by kernel_rfl) (by kernel_rfl) ?_
                repeat (gi_big_quiet_step (fail))
                refine wpQuietIn_nil ?_
                rintro _ ⟨nq, rfl⟩
                obtain ⟨s1, s2⟩ := (HO.out.drewN nq).step (by omega) (by omega) ((i : Int) + 1)
                have k0 := s1.1.1.cell
                have k1 := s1.1.2.cell
                have k2 := (boxed_later HS.out s1.2).cell
                have S1 := Lib.hid s1
                have S2 := Lib.hid s2
                clear s1 s2
                gi_wp2
                have hi2 : (pre ++ [x]).length = i + 1 := by rw [HQQ.out, HI.out]
                refine ⟨(ko_drewN W nq).trans (KeepsOthers.setCell _ _ _), ?_, ⟨?_, HPP.out.2 HEQ.out⟩⟩
                · exact KeepT.trans (fun _ _ _ h => h) S2.out
                · rw [hi2]
                  exact S1.out
            · have b2 : (x.2 != y.2) = true := by simpa using hv
              have HE := Lib.hid hv
              clear hk hv
              gi_wp2
              refine wpIn_region_quiet_round rfl (by kernel_rfl) (by kernel_rfl) (by kernel_rfl) ?_
              repeat (gi_big_quiet_step (fail))
              refine wpQuietIn_nil ?_
              rintro _ ⟨nq, rfl⟩
              gi_wp2
              exact ⟨(ko_drewN W nq).trans (KeepsOthers.setCell _ _ _), .inr ⟨rfl, fun hp => HE.out (by rw [HPP.out.1 hp])⟩⟩
          · have b1 : (x.1 != y.1) = true := by simpa using hk
            have HE := Lib.hid hk
            clear hk
            gi_wp2
            refine wpIn_region_quiet_round rfl (by kernel_rfl) (by kernel_rfl) (by kernel_rfl) ?_
            repeat (gi_big_quiet_step (fail))
            refine wpQuietIn_nil ?_
            rintro _ ⟨nq, rfl⟩
            gi_wp2
            exact ⟨(ko_drewN W nq).trans (KeepsOthers.setCell _ _ _), .inr ⟨rfl, fun hp => HE.out (by rw [HPP.out.1 hp])⟩⟩
      case brk => exact fun a' W h => h
      case next =>
        rintro D W hD ⟨q, hO⟩ hK
        have c0 := hO.1.1.cell
        have HO := Lib.hid hO
        have HK := Lib.hid hK
        clear hO hK hO0
        go_wp2_with fail
        go_quiet (fail)
        have hO := HO.out.drewN nq
        have hK : (W.drewN nq).heap[D]? = some (.deferred (some [])) := HK.out
        clear HO HK c0
        generalize W.drewN nq = V at hO hK ⊢
        have c0 := hO.1.1.cell
        have HO := Lib.hid hO
        have HK := Lib.hid hK
        clear hO hK
        go_wp2_with fail
        rw [rounds_succ]
        go_wp2_with fail
        refine (wpIn_wide (n := 3)).1 ?_
        have hVB := HO.out.2
        have hVs := hVB.size
        have hDV := heap_lt HK.out
        have hO1 : TwI W3 V.heap.size (V.heap.size + 1) 1 0 ((V.alloc (.cells #[.int .i64 1] 3)).alloc (.cells #[.int .i64 0] 3)) := by
          have b0 := Boxed.new V 3 (.int .i64 1)
          have b1 := Boxed.new (V.alloc (.cells #[.int .i64 1] 3)) 3 (.int .i64 0)
          rw [World.size_alloc] at b1
          exact ⟨⟨b0.alloc _, b1⟩, (hVB.alloc hVs _).alloc (by simp; omega) _⟩
        have hK1 : ((V.alloc (.cells #[.int .i64 1] 3)).alloc (.cells #[.int .i64 0] 3)).heap[D]? = some (.deferred (some [])) :=
          (Below.heap_alloc _ _ _ (by simp; omega)).trans ((Below.heap_alloc _ _ _ hDV).trans HK.out)
        obtain ⟨w6, hw6⟩ : ∃ w6, (V.alloc (.cells #[.int .i64 1] 3)).alloc (.cells #[.int .i64 0] 3) = w6 := ⟨_, rfl⟩
        have hs6 : w6.heap.size = V.heap.size + 2 := by rw [← hw6]; simp
        rw [hw6] at hO1 hK1 ⊢
        clear hw6 hVB HO HK c0
        refine rangeF_mid rfl (by omega) (gf := 34) (lb := #[.pointer (some ⟨nb + 1, 0, none⟩), .pointer (some ⟨nb, 0, none⟩)]) rfl trivial (enters_of Try.func34 (by kernel_rfl) rfl)
          HST.out KeepT.trans (fun W l o o' hl hh hc _ => KeepT.putObj o' hh hc) hO1.2 (fun _ => rfl)
          (fun pre W => (TwI W3 V.heap.size (V.heap.size + 1) 1 (pre.length : Int) W ∧ pre <+: L) ∧ W.heap[D]? = some (.deferred (some []))) 2 (fun _ => False) (fun pre => ¬ pre <+: L)
          (fun W => TwI W3 V.heap.size (V.heap.size + 1) 1 (L.length : Int) W ∧ W.heap[D]? = some (.deferred (some [])))
          (OwnFrom.and (OwnFrom.and (twI_own W3 V.heap.size (V.heap.size + 1) 1 (fun pre : List (Int × Int) => (pre.length : Int)) (by omega)) (ownFrom_pure _ _)) (ownFrom_block (by omega)))
          (fun s A C row hs hg hr => hs) ⟨⟨hO1, List.nil_prefix⟩, hK1⟩ ?ex2 (fun xs W e h => ⟨e ▸ h.1.1, h.2⟩) (fun W h => h.elim) (fun pre h hz => hz h) ?brk2 ?next2
        case ex2 =>
          apply Exists.intro
          apply And.intro
          · intro l x W K hK
            simp only [enc2]
            gi_wp2
            exact hK
          · rintro l pre x W ⟨⟨hO, hpre⟩, hKK⟩ hlt
            obtain ⟨y, hy⟩ : ∃ y, L[pre.length]? = some y := ⟨L[pre.length]'hlt, List.getElem?_eq_getElem hlt⟩
            have hps := prefix_snoc (x := x) hpre hy
            have hi := (List.getElem?_eq_some_iff.1 hy).1
            obtain ⟨gk, ck, gv, cv, r0, r1, r2, r3⟩ := (HC.out.later hO.2).reads hy
            have c0 := hO.1.1.cell
            have c1 := hO.1.2.cell
            have f1 := hO.1.2.frozen
            have x0 := (boxed_later HX.out hO.2).cell
            have y0 := (boxed_later HS.out hO.2).cell
            have z0 := (boxed_later HR.out hO.2).cell
            have z1 := (boxed_later HR.out hO.2).frozen
            have hiq : (pre ++ [x]).length = pre.length + 1 := by simp
            have HQQ := Lib.hid hiq
            obtain ⟨i, hii⟩ : ∃ i, pre.length = i := ⟨_, rfl⟩
            rw [hii] at hi r2 r3 c1
            have t1 : decide ((L.length : Int) ≤ (i : Int)) = false := decide_eq_false (by omega)
            have t1' : decide (L.length ≤ i) = false := decide_eq_false (by omega)
            have t2 : (0 : Int) ≤ (i : Int) := by omega
            have t3 : (i : Int) < (L.length : Int) := by omega
            have e1 : IntKind.i64.wrap ((i : Int) + 1) = ((i + 1 : Nat) : Int) := by rw [IntWalk.i64_in _ (by omega)]; rfl
            have HPP := Lib.hid hps
            have HO := Lib.hid hO
            have HKK := Lib.hid hKK
            have HI := Lib.hid hii
            clear hps hO hpre hKK hy hlt hiq hii
            by_cases hk : x.1 = y.1
            · have b1 : (x.1 != y.1) = false := by simp [hk]
              by_cases hv : x.2 = y.2
              · have b2 : (x.2 != y.2) = false := by simp [hv]
                have hxy : y = x := Prod.ext hk.symm hv.symm
                have HEQ := Lib.hid hxy
                clear hxy hk hv
                gi_wp2
                refine wpIn_region_quiet_round rfl (by kernel_rfl) (by kernel_rfl) (by kernel_rfl) ?_
                repeat (gi_big_quiet_step (fail))
                refine wpQuietIn_nil ?_
                rintro _ ⟨nq, rfl⟩
                obtain ⟨s1, s2⟩ := (HO.out.drewN nq).step (by omega) (by omega) ((i : Int) + 1)
                have k0 := s1.1.1.cell
                have k1 := s1.1.2.cell
                have S1 := Lib.hid s1
                have S2 := Lib.hid s2
                clear s1 s2
                gi_wp2
                have hi2 : (pre ++ [x]).length = i + 1 := by rw [HQQ.out, HI.out]
                refine ⟨(ko_drewN W nq).trans (KeepsOthers.setCell _ _ _), ?_, ⟨?_, HPP.out.2 HEQ.out⟩, (KeepsOthers.setCell _ _ _).same D _ HKK.out rfl⟩
                · exact KeepT.trans (fun _ _ _ h => h) S2.out
                · rw [hi2]
                  exact S1.out
              · have b2 : (x.2 != y.2) = true := by simpa using hv
                have HE := Lib.hid hv
                clear hk hv
                gi_wp2
                refine wpIn_region_quiet_round rfl (by kernel_rfl) (by kernel_rfl) (by kernel_rfl) ?_
                repeat (gi_big_quiet_step (fail))
                refine wpQuietIn_nil ?_
                rintro _ ⟨nq, rfl⟩
                gi_wp2
                exact ⟨(ko_drewN W nq).trans (KeepsOthers.setCell _ _ _), .inr ⟨rfl, fun hp => HE.out (by rw [HPP.out.1 hp])⟩⟩
            · have b1 : (x.1 != y.1) = true := by simpa using hk
              have HE := Lib.hid hk
              clear hk
              gi_wp2
              refine wpIn_region_quiet_round rfl (by kernel_rfl) (by kernel_rfl) (by kernel_rfl) ?_
              repeat (gi_big_quiet_step (fail))
              refine wpQuietIn_nil ?_
              rintro _ ⟨nq, rfl⟩
              gi_wp2
              exact ⟨(ko_drewN W nq).trans (KeepsOthers.setCell _ _ _), .inr ⟨rfl, fun hp => HE.out (by rw [HPP.out.1 hp])⟩⟩
        case brk2 => exact fun a' W h => h
        case next2 =>
          rintro D2 W2 hD2 ⟨hO, hKD⟩ hK
          have c0 := hO.1.1.cell
          have c1 := hO.1.2.cell
          have x0 := (boxed_later HX.out hO.2).cell
          have hr := HC.out.later hO.2
          obtain ⟨ko, kc, hko⟩ := own_slice hr.keys
          have r0 := cell_of_heap hr.blk 0
          simp only [List.getElem?_toArray, List.getElem?_cons_zero] at r0
          rw [hko] at r0
          have hbb : ((L.length : Int) != (L.length : Int)) = false := by simp
          have HO := Lib.hid hO
          have HKD := Lib.hid hKD
          have HK := Lib.hid hK
          clear hO hKD hK hO1 hK1 hr hko
          go_wp2_with fail
          go_quiet (fail)
          have hO := HO.out.drewN nq
          have hK : (W2.drewN nq).heap[D2]? = some (.deferred (some [])) := HK.out
          have hKD : (W2.drewN nq).heap[D]? = some (.deferred (some [])) := HKD.out
          clear HO HK HKD c0 c1 x0 r0
          generalize W2.drewN nq = V2 at hO hK hKD ⊢
          have c0 := hO.1.1.cell
          have HO := Lib.hid hO
          have HK := Lib.hid hK
          have HKD := Lib.hid hKD
          clear hO hK hKD
          go_wp2_with fail
          rw [rounds_succ]
          have hB5 : Below W3.heap.size W3 (V2.alloc (.cells #[.int .i64 2] 3)) := HO.out.2.alloc HO.out.2.size _
          have hr5 := HC.out.later hB5
          have hal := fun w5 (hB : Below W3.heap.size W3 w5) => all_any w5 (HP.out.tree.keep (mod_of_below hB) (fun _ _ _ h => h.elim) (fun h => h)) rfl HP.out.sorted HP.out.bal HP.out.keys (HP.out.doc.later hB) (by have := Tr.many_list t2; have := HMM.out; omega)
          have hal2 := fun w5 (hB : Below W3.heap.size W3 w5) => all_any w5 (HU.out.tree.keep (mod_of_below hB) (fun _ _ _ h => h.elim) (fun h => h)) rfl HU.out.sorted HU.out.bal HU.out.keys (HU.out.doc.later hB) (by have := Tr.many_list u2; have := HMM.out; omega)
          have HA := Lib.hid hal
          have HA2 := Lib.hid hal2
          clear hal hal2 hr5
          go_wp2_with fail
          refine (HA.out _ hB5).mono ?_
          rintro e w8 ⟨rfl, hB6⟩
          have hB7 := hB5.trans (hB6.mono hB5.size)
          have hz8 := hB6.size
          rw [World.size_alloc] at hz8
          have hKa : w8.heap[D2]? = some (.deferred (some [])) := (hB6.block D2 (by have := heap_lt HK.out; simp; omega)).trans ((Below.heap_alloc _ _ _ (heap_lt HK.out)).trans HK.out)
          have hKb : w8.heap[D]? = some (.deferred (some [])) := (hB6.block D (by have := heap_lt HKD.out; simp; omega)).trans ((Below.heap_alloc _ _ _ (heap_lt HKD.out)).trans HKD.out)
          have HKa := Lib.hid hKa
          have HKb := Lib.hid hKb
          clear hKa hKb HA c0
          go_wp2_with fail
          refine (HA2.out _ hB7).mono ?_
          rintro e w9 ⟨rfl, hB8⟩
          have hB9 := hB7.trans (hB8.mono hB7.size)
          have hKa : w9.heap[D2]? = some (.deferred (some [])) := (hB8.block D2 (heap_lt HKa.out)).trans HKa.out
          have hKb : w9.heap[D]? = some (.deferred (some [])) := (hB8.block D (heap_lt HKb.out)).trans HKb.out
          have z0 := (boxed_later HR.out hB9).cell
          have z1 := (boxed_later HR.out hB9).frozen
          have HKa := Lib.hid hKa
          have HKb := Lib.hid hKb
          clear hKa hKb HA2
          go_wp2_with fail
          have hrl := HR.out.lt
          exact ret_at2 (boxed_later HR.out hB9) rfl (HB.out.trans (hB9.mono HB.out.size)) (by omega) HKa.out (by omega) HKb.out (by omega) (by omega)

end Go.Proofs.Ytpkapfhfnnfomaa
