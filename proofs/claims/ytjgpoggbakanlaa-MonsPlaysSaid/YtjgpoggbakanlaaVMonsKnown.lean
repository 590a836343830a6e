/- What a put and a drop do to what is there; the invariant; 'known' of the layer of monitors. -/
import Derived.Test.YtjgpoggbakanlaaVMons
import Derived.Test.YtjgpoggbakanlaaArgMs
namespace Go.Proofs.Ytjgpoggbakanlaa
open Go.RowKit Go.Shelf
attribute [local irreducible] Ext

theorem has_iff {t : Tr (Int × Int × ByteArray)} (hs : t.sorted) (n : Int) : (getR t n).2 = true ↔ ∃ y ∈ t.list, y.1 = n := by
  unfold getR
  rw [Tr.get_look n hs]
  cases h : look n t.list with
  | none =>
    simp only [Bool.false_eq_true, false_iff]
    rintro ⟨y, hy, rfl⟩
    rw [look_of_mem (Tr.sorted_rising hs) hy] at h
    cases h
  | some v => exact ⟨fun _ => ⟨_, look_mem h, rfl⟩, fun _ => rfl⟩

theorem has_put1 {t : Tr (Int × Int × ByteArray)} (hs : t.sorted) (m : (Int × Int × ByteArray)) (n : Int) : (getR (put1 t m) n).2 = if m.1 = n then ((getR t n).2 || !bad t m) else (getR t n).2 := by
  unfold put1
  cases hb : bad t m with
  | true => simp
  | false =>
    simp only [Bool.false_eq_true, if_false, Bool.not_false, Bool.or_true]
    have hp := Tr.sorted_put hs m.1 m
    split
    · rename_i h
      rw [has_iff hp]
      exact ⟨(m.1, m), by rw [Tr.list_put hs, mem_ins (Tr.sorted_rising hs)]; exact .inl rfl, h⟩
    · rename_i h
      rw [Bool.eq_iff_iff, has_iff hp, has_iff hs]
      constructor
      · rintro ⟨y, hy, e⟩
        rw [Tr.list_put hs, mem_ins (Tr.sorted_rising hs)] at hy
        rcases hy with rfl | hy
        · exact absurd e h
        · exact ⟨y, hy.1, e⟩
      · rintro ⟨y, hy, e⟩
        refine ⟨y, ?_, e⟩
        rw [Tr.list_put hs, mem_ins (Tr.sorted_rising hs)]
        exact .inr ⟨hy, fun e' => h (e'.symm.trans e)⟩

theorem has_dropped {t : Tr (Int × Int × ByteArray)} (hs : t.sorted) (k n : Int) : (getR (dropped t k) n).2 = if k = n then false else (getR t n).2 := by
  have hl := dropped_list hs k
  have hd : (dropped t k).sorted := by
    unfold dropped; split
    · exact Tr.sorted_drop hs k
    · exact hs
  split
  · rename_i h
    rw [Bool.eq_false_iff, Ne, has_iff hd]
    rintro ⟨y, hy, e⟩
    rw [hl, mem_del (Tr.sorted_rising hs)] at hy
    exact hy.2 (e.trans h.symm)
  · rename_i h
    rw [Bool.eq_iff_iff, has_iff hd, has_iff hs]
    constructor
    · rintro ⟨y, hy, e⟩
      rw [hl, mem_del (Tr.sorted_rising hs)] at hy
      exact ⟨y, hy.1, e⟩
    · rintro ⟨y, hy, e⟩
      refine ⟨y, ?_, e⟩
      rw [hl, mem_del (Tr.sorted_rising hs)]
      exact ⟨hy, fun e' => h (e'.symm.trans e)⟩

theorem many_put1 (t : Tr (Int × Int × ByteArray)) (m : (Int × Int × ByteArray)) : (put1 t m).many ≤ t.many + 1 := by
  unfold put1; split
  · omega
  · exact Tr.many_put m.1 m t

/-- The table, and whatever lay at w lies as it lay. -/
structure MInv (w wr : World) (mb ob gb : Nat) (t u : Tr (Int × Int × ByteArray)) : Prop where
  at_ : MAt wr mb ob gb t u
  below : Below w.heap.size w wr
  hob : w.heap.size ≤ ob
  hgb : w.heap.size ≤ gb

theorem MInv.ext {w wr w' : World} {mb ob gb : Nat} {t u : Tr (Int × Int × ByteArray)} (h : MInv w wr mb ob gb t u) (hE : Ext wr w') : MInv w w' mb ob gb t u :=
  ⟨h.at_.ext hE, h.below.trans (hE.below.mono h.below.size), h.hob, h.hgb⟩

theorem MInv.o {w wr w' : World} {mb ob gb : Nat} {t u t' u' : Tr (Int × Int × ByteArray)} (h : MInv w wr mb ob gb t u) (ha : MAt w' mb ob gb t' u') (hM : Mod (fun k => k = ob) wr w') : MInv w w' mb ob gb t' u' :=
  ⟨ha, h.below.trans (hM.below h.below.size (fun k e => by have := h.hob; omega)), h.hob, h.hgb⟩

theorem MInv.g {w wr w' : World} {mb ob gb : Nat} {t u t' u' : Tr (Int × Int × ByteArray)} (h : MInv w wr mb ob gb t u) (ha : MAt w' mb ob gb t' u') (hM : Mod (fun k => k = gb) wr w') : MInv w w' mb ob gb t' u' :=
  ⟨ha, h.below.trans (hM.below h.below.size (fun k e => by have := h.hgb; omega)), h.hob, h.hgb⟩

set_option maxRecDepth 100000 in
set_option maxHeartbeats 1000000 in
theorem mknown_any (w : World) : Calls Try.prog 6 #[] w fun e w' => e = .returned (.bool true) ∧ Mod (fun _ => False) w w' := by
  have k1 : ∀ {mb ob gb : Nat} {w : World}, MAt w mb ob gb .nil .nil → Calls Try.prog 8 #[.pointer (some ⟨mb, 0, none⟩), .int .i64 5, .int .i64 2, .string ⟨#[]⟩] w fun e w' =>
      e = .returned (.int .i64 0) ∧ MAt w' mb ob gb (.node .nil 5 (5, 2, ⟨#[]⟩) .nil) .nil ∧ Mod (fun k => k = ob) w w' := fun h => watch_any 5 2 ⟨#[]⟩ _ h (by decide) (by decide)
  have k2 : ∀ {mb ob gb : Nat} {w : World}, MAt w mb ob gb (.node .nil 5 (5, 2, ⟨#[]⟩) .nil) .nil → Calls Try.prog 8 #[.pointer (some ⟨mb, 0, none⟩), .int .i64 5, .int .i64 3, .string ⟨#[]⟩] w fun e w' =>
      e = .returned (.int .i64 1) ∧ MAt w' mb ob gb (.node .nil 5 (5, 2, ⟨#[]⟩) .nil) .nil ∧ Mod (fun k => k = ob) w w' := fun h => watch_any 5 3 ⟨#[]⟩ _ h (by decide) (by decide)
  have k3 : ∀ {mb ob gb : Nat} {w : World}, MAt w mb ob gb (.node .nil 5 (5, 2, ⟨#[]⟩) .nil) .nil → Calls Try.prog 10 #[.pointer (some ⟨mb, 0, none⟩), .int .i64 5] w fun e w' =>
      e = .returned (.tuple #[.agg #[.int .i64 5, .int .i64 2, .string ⟨#[]⟩], .bool true]) ∧ MAt w' mb ob gb .nil .nil ∧ Mod (fun k => k = ob) w w' := fun h => onDown_any 5 _ h (by decide)
  have k4 : ∀ {mb ob gb : Nat} {w : World}, MAt w mb ob gb .nil .nil → Calls Try.prog 10 #[.pointer (some ⟨mb, 0, none⟩), .int .i64 5] w fun e w' =>
      e = .returned (.tuple #[.agg #[.int .i64 0, .int .i64 0, .string ⟨#[]⟩], .bool false]) ∧ MAt w' mb ob gb .nil .nil ∧ Mod (fun k => k = ob) w w' := fun h => onDown_any 5 _ h (by decide)
  have k5 : ∀ {mb ob gb : Nat} {w : World}, MAt w mb ob gb .nil .nil → Calls Try.prog 8 #[.pointer (some ⟨mb, 0, none⟩), .int .i64 5, .int .i64 3, .string ⟨#[97]⟩] w fun e w' =>
      e = .returned (.int .i64 0) ∧ MAt w' mb ob gb (.node .nil 5 (5, 3, ⟨#[97]⟩) .nil) .nil ∧ Mod (fun k => k = ob) w w' := fun h => watch_any 5 3 ⟨#[97]⟩ _ h (by decide) (by decide)
  have k6 : ∀ {mb ob gb : Nat} {w : World}, MAt w mb ob gb (.node .nil 5 (5, 3, ⟨#[97]⟩) .nil) .nil → Calls Try.prog 14 #[.pointer (some ⟨mb, 0, none⟩)] w fun e w' =>
      e = .returned (.tuple #[.int .i64 1, .int .i64 0]) ∧ ∃ n, w' = w.drewN n := fun h => mlen_any _ h
  go_enter Try.func6, Try.ntmps6
  go_wp2_with fail
  refine (mnew_any _).mono ?_
  rintro e w1 ⟨mb, ob, gb, rfl, h1, hE1, hmb, hob, hgb⟩
  have HE := Lib.hid hE1
  clear hE1
  go_wp2_with fail
  refine (k1 h1).mono ?_
  rintro e w2 ⟨rfl, h2, hM2⟩
  have HM2 := Lib.hid hM2
  clear h1 hM2
  go_wp2_with fail
  refine (k2 h2).mono ?_
  rintro e w3 ⟨rfl, h3, hM3⟩
  have HM3 := Lib.hid hM3
  clear h2 hM3
  go_wp2_with fail
  refine (k3 h3).mono ?_
  rintro e w4 ⟨rfl, h4, hM4⟩
  have HM4 := Lib.hid hM4
  clear h3 hM4
  go_wp2_with fail
  have hz4 : Box3 (w4.alloc (.cells #[.int .i64 5, .int .i64 2, .string ⟨#[]⟩] 31)) w4.heap.size (5, 2, ⟨#[]⟩) := heap_alloc_new w4 _
  have h4' := h4.ext ((Ext.refl w4).alloc (.cells #[.int .i64 5, .int .i64 2, .string ⟨#[]⟩] 31))
  refine (k4 h4').mono ?_
  rintro e w5 ⟨rfl, h5, hM5⟩
  have hl4 := treeAt_lt h4.org
  have hz5 : Box3 w5 w4.heap.size (5, 2, ⟨#[]⟩) := hM5.keep hz4 (by omega)
  have HM5 := Lib.hid hM5
  have HH4 := Lib.hid h4
  clear h4 h4' hz4 hM5
  go_wp2_with fail
  have h5' := h5.ext ((Ext.refl w5).alloc (.cells #[.int .i64 0, .int .i64 0, .string ⟨#[]⟩] 31))
  have hz6 := hz5.alloc (.cells #[.int .i64 0, .int .i64 0, .string ⟨#[]⟩] 31)
  refine (k5 h5').mono ?_
  rintro e w6 ⟨rfl, h6, hM6⟩
  have hz7 : Box3 w6 w4.heap.size (5, 2, ⟨#[]⟩) := hM6.keep hz6 (by omega)
  have HM6 := Lib.hid hM6
  clear h5 h5' hz5 hz6 hM6
  go_wp2_with fail
  refine (k6 h6).mono ?_
  rintro e w7 ⟨rfl, nq, rfl⟩
  obtain ⟨x0, x1, x2, _, _, _⟩ := hz7.cells
  clear h6 k1 k2 k3 k4 k5 k6 hl4
  go_wp2_with fail
  go_ret
  refine ⟨rfl, ?_⟩
  have hE := HE.out
  unfold Ext at hE
  have m2 := hE.trans HM2.out (F := fun _ => False) (fun i hi e => by omega)
  have m3 := m2.trans HM3.out (fun i hi e => by omega)
  have m4 := m3.trans HM4.out (fun i hi e => by omega)
  have m5 := (m4.alloc _).trans HM5.out (fun i hi e => by omega)
  exact ((m5.alloc _).trans HM6.out (fun i hi e => by omega)).drewN _

end Go.Proofs.Ytjgpoggbakanlaa
