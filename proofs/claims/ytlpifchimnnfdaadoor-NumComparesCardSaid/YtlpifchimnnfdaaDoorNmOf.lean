/- Numbers: a term as a number, as the program has it. -/
import Derived.Test.YtlpifchimnnfdaaDoorNmBase
import Derived.RegionTactic
import Derived.BigRegion
import Derived.Deep.RegionLaw
namespace Go.Proofs.YtlpifchimnnfdaaDoor
open Go.RowKit
attribute [local irreducible] Ext
attribute [local go_sem] run_store_float

/-- A number's three cells in a block of their own. -/
def NBox (w : World) (b : Nat) (k n f : Int) : Prop := w.heap[b]? = some (.cells #[.int .i64 k, .int .i64 n, .int .u64 f] 71 (0, 0))

section
variable {w w' : World} {b : Nat} {k n f : Int}
theorem NBox.new (w : World) (k n f : Int) : NBox (w.alloc (.cells #[.int .i64 k, .int .i64 n, .int .u64 f] 71)) w.heap.size k n f := heap_alloc_new w _
theorem NBox.ext (h : NBox w b k n f) (hE : Ext w w') : NBox w' b k n f := hE.keep h
theorem NBox.cells (h : NBox w b k n f) : w.cell? ⟨b, 0, none⟩ = some (.int .i64 k) ∧ w.cell? ⟨b, 1, none⟩ = some (.int .i64 n) ∧ w.cell? ⟨b, 2, none⟩ = some (.int .u64 f) :=
  ⟨by simp [cell_of_heap h], by simp [cell_of_heap h], by simp [cell_of_heap h]⟩
theorem NBox.free (h : NBox w b k n f) (o : Nat) : w.frozen? ⟨b, o, none⟩ = false := free_of_heap h o
theorem NBox.fill (h : NBox w b k n f) (k' n' f' : Int) : NBox (((w.setCell ⟨b, 0, none⟩ (.int .i64 k')).setCell ⟨b, 1, none⟩ (.int .i64 n')).setCell ⟨b, 2, none⟩ (.int .u64 f')) b k' n' f' := by
  unfold NBox at h ⊢
  have h0 := heap_set (o := 0) h (.int .i64 k')
  have h1 := heap_set (o := 1) h0 (.int .i64 n')
  have h2 := heap_set (o := 2) h1 (.int .u64 f')
  simpa using h2
end

/-- What 'of' tells. -/
def ofV (k n f : Int) (ok : Bool) : Value := .tuple #[.agg #[.int .i64 k, .int .i64 n, .int .u64 f], .bool ok]

def set3 (W : World) (B : Nat) (k n f : Int) : World := ((W.setCell ⟨B, 0, none⟩ (.int .i64 k)).setCell ⟨B, 1, none⟩ (.int .i64 n)).setCell ⟨B, 2, none⟩ (.int .u64 f)

theorem ext_set3 {w W : World} {B : Nat} (h : Ext w W) (hB : w.heap.size ≤ B) (k n f : Int) : Ext w (set3 W B k n f) :=
  ext_set (ext_set (ext_set h (p := ⟨B, 0, none⟩) hB _) (p := ⟨B, 1, none⟩) hB _) (p := ⟨B, 2, none⟩) hB _

theorem whole_any (k n f : Int) (w : World) : Calls Tryd.prog 61 #[.agg #[.int .i64 k, .int .i64 n, .int .u64 f]] w fun e w' => e = .returned (.bool (k == 1)) ∧ Ext w w' := by
  have HE := Lib.hid ((Ext.refl w).alloc (.cells #[.int .i64 k, .int .i64 n, .int .u64 f] 71))
  obtain ⟨r, hr⟩ : ∃ r, (k == 1) = r := ⟨_, rfl⟩
  rw [hr]
  go_enter Tryd.func61, Tryd.ntmps61
  go_wp2_with fail
  go_ret
  exact ⟨rfl, HE.out⟩

/-- What 'of' leaves. -/
def OfPost (w : World) (k n : Int) (f : Nat) (ok : Bool) (e : Ending) (w' : World) : Prop :=
  ∃ k' n' f', e = .returned (ofV k' n' f' ok) ∧ (ok = true → k' = k ∧ n' = n ∧ f' = (f : Int)) ∧ Ext w w'

/-- Where 'of' stands when its number is made. -/
def OfAt (w wx : World) (k n : Int) (f : Nat) (s : ByteArray) (so : Option Addr) (m cap : Nat) : Prop :=
  Ext w wx ∧ RBox wx w.heap.size k n f s so m cap ∧ NBox wx (w.heap.size + 1) 0 0 0 ∧ NBox wx (w.heap.size + 2) k n f

theorem of_at {w w2 : World} {k n : Int} {f : Nat} {s : ByteArray} {so : Option Addr} {m cap : Nat} (hE : Ext w w2) (hR : RBox w2 w.heap.size k n f s so m cap) (hZ : NBox w2 (w.heap.size + 1) 0 0 0) (hs : w2.heap.size = w.heap.size + 2) :
    OfAt w (w2.alloc (.cells #[.int .i64 k, .int .i64 n, .int .u64 f] 71)).drew k n f s so m cap := by
  have h1 := ((Ext.refl w2).alloc (.cells #[.int .i64 k, .int .i64 n, .int .u64 f] 71)).drew
  have h2 := (NBox.new w2 k n f).ext (Ext.refl _).drew
  rw [hs] at h2
  exact ⟨hE.trans h1, hR.ext h1, hZ.ext h1, h2⟩

set_option maxRecDepth 100000 in
set_option maxHeartbeats 40000000 in
theorem of_any (k n : Int) (f : Nat) (s : ByteArray) (so : Option Addr) (m cap : Nat) (hf : f < 18446744073709551616) (w : World) :
    Calls Tryd.prog 60 #[.agg #[.int .i64 k, .int .i64 n, .float .f64 f, .string s, .slice so m cap]] w fun e w' =>
      OfPost w k n f (numV k n f s m) e w' := by
  obtain ⟨r, hr⟩ : ∃ r, numV k n f s m = r := ⟨_, rfl⟩
  rw [hr]
  have HR := Lib.hid hr
  clear hr
  have hE1 := (Ext.refl w).alloc (.cells #[.int .i64 k, .int .i64 n, .float .f64 f, .string s, .slice so m cap] 27)
  have hB1 := RBox.new w k n f s so m cap
  obtain ⟨w1, hw1⟩ : ∃ w1, w.alloc (.cells #[.int .i64 k, .int .i64 n, .float .f64 f, .string s, .slice so m cap] 27) = w1 := ⟨_, rfl⟩
  have hs1 : w1.heap.size = w.heap.size + 1 := by rw [← hw1]; simp
  rw [hw1] at hE1 hB1
  have hE2 := (Ext.refl w1).alloc (.cells #[.int .i64 0, .int .i64 0, .int .u64 0] 71)
  have hB2 := NBox.new w1 0 0 0
  rw [hs1] at hB2
  obtain ⟨w2, hw2⟩ : ∃ w2, w1.alloc (.cells #[.int .i64 0, .int .i64 0, .int .u64 0] 71) = w2 := ⟨_, rfl⟩
  have hs2 : w2.heap.size = w.heap.size + 2 := by rw [← hw2, World.size_alloc, hs1]
  rw [hw2] at hE2 hB2
  have hB1' := hB1.ext hE2
  have hb := run_bits f
  have HW1 := Lib.hid hw1
  have HW2 := Lib.hid hw2
  have H := Lib.hid (And.intro (hE1.trans hE2) (And.intro hB1' (And.intro hB2 hs2)))
  obtain ⟨c0, c1, c2, c3, c4⟩ := hB1'.cells
  clear hE1 hB1 hw1 hs1 hE2 hB2 hw2 hs2 hB1'
  go_enter Tryd.func60, Tryd.ntmps60
  go_upto_region 1 with (fail)
  rw [HW1.out, HW2.out]
  go_cut [4] from 5 to 12 (fun u wx => u = .pointer (some ⟨w2.heap.size, 0, none⟩) ∧ Hid (OfAt w wx k n f s so m cap))
  case first =>
    go_region_held3 (fun w' => w'.cell? ⟨w.heap.size, 0, none⟩ = some (.int .i64 k) ∧ w'.cell? ⟨w.heap.size, 1, none⟩ = some (.int .i64 n) ∧ w'.cell? ⟨w.heap.size, 2, none⟩ = some (.float .f64 f)) (first | assumption | go_keep)
      (fail)
    all_goals go_wp2
    all_goals go_meet
    all_goals exact ⟨rfl, Lib.hid (of_at H.out.1 H.out.2.1 H.out.2.2.1 H.out.2.2.2)⟩
  case rest =>
    obtain ⟨rfl, HO⟩ := hcut
    have hs2 := H.out.2.2.2
    rw [hs2]
    obtain ⟨hE, hR, hZ, hN⟩ := HO.out
    clear c0 c1 c2 c3 c4 hs2
    obtain ⟨c0, c1, c2, c3, c4⟩ := hR.cells
    obtain ⟨d0, d1, d2⟩ := hN.cells
    obtain ⟨a0, a1, a2⟩ := hZ.cells
    have g0 := hZ.free 0
    have g1 := hZ.free 1
    have g2 := hZ.free 2
    obtain ⟨r0, r1, r2⟩ := (hZ.fill 0 0 0).cells
    obtain ⟨t0, t1, t2⟩ := (hZ.fill k n f).cells
    have HX := Lib.hid (ext_set3 (B := w.heap.size + 1) hE (by omega) 0 0 0)
    have HY := Lib.hid (ext_set3 (B := w.heap.size + 1) hE (by omega) k n f)
    have HD := Lib.hid (fun q => ext_set3 (B := w.heap.size + 1) (hE.drewN q) (by omega) k n f)
    clear hE hR hZ hN HO H HW1 HW2
    by_cases hs : s = ⟨#[]⟩
    · subst hs
      by_cases hm : m = 0
      · subst hm
        by_cases hk1 : k = 1
        · subst hk1
          have hN : numV 1 n f ⟨#[]⟩ 0 = (decide (-576460752303423488 ≤ n) && decide (n ≤ 576460752303423487) && decide (f = 0)) := by
            unfold numV
            rw [if_pos rfl, decide_eq_true rfl, decide_eq_true rfl]
            rfl
          rw [← int_zero] at hN
          rw [hN] at HR
          clear hN
          cases b1 : ((f : Int) == 0) <;> cases b2 : decide (-576460752303423488 ≤ n) <;> cases b3 : decide (n ≤ 576460752303423487)
          all_goals rw [b1, b2, b3] at HR
          all_goals obtain rfl := HR.out
          all_goals
            go_wp2_with fail
            go_region
          all_goals go_wp2_with fail
          all_goals exact bodyPost_ret (v := ofV 1 n f _) (by simp [results, ofV, Tryd.f60, go_sem, t0, t1, t2]) rfl ⟨1, n, f, rfl, fun _ => ⟨rfl, rfl, rfl⟩, HY.out.drew⟩
        · by_cases hk2 : k = 2
          · subst hk2
            have hN : numV 2 n f ⟨#[]⟩ 0 = (decide (n = 0) && (!nanF f && !infF f)) := by
              unfold numV
              rw [if_neg (by decide), if_pos rfl, decide_eq_true rfl, decide_eq_true rfl, finF_not]
              rfl
            rw [show decide (n = 0) = (n == 0) by rw [Bool.eq_iff_iff]; simp] at hN
            rw [hN] at HR
            have hc1 := fun w => isNaN_any f w
            have hc2 := fun w => isInf_any f hf w
            clear hN hf
            cases b1 : (n == 0)
            · rw [b1, Bool.false_and] at HR
              obtain rfl := HR.out
              clear hc1 hc2
              go_wp2_with fail
              go_region
              all_goals go_wp2_with fail
              all_goals exact bodyPost_ret (v := ofV 2 n f _) (by simp [results, ofV, Tryd.f60, go_sem, t0, t1, t2]) rfl ⟨2, n, f, rfl, fun _ => ⟨rfl, rfl, rfl⟩, HY.out.drew⟩
            · cases b2 : nanF f
              · rw [b2] at hc1
                cases b3 : infF f
                all_goals rw [b1, b2, b3] at HR
                all_goals rw [b3] at hc2
                all_goals obtain rfl := HR.out
                all_goals clear b2 b3
                all_goals go_wp2_with fail
                all_goals
                  go_region_held3 (fun w' => w'.cell? ⟨w.heap.size + 2, 0, none⟩ = some (.int .i64 2) ∧ w'.cell? ⟨w.heap.size + 2, 1, none⟩ = some (.int .i64 n) ∧ w'.cell? ⟨w.heap.size + 2, 2, none⟩ = some (.int .u64 f) ∧ w'.cell? ⟨w.heap.size, 1, none⟩ = some (.int .i64 n) ∧ w'.cell? ⟨w.heap.size, 2, none⟩ = some (.float .f64 f)) (first | assumption | go_keep)
                    (first
                      | (go_at_call 56; (with_reducible refine (hc1 _).mono ?_); rintro e wa ⟨rfl, rfl⟩)
                      | (go_at_call 57; (with_reducible refine (hc2 _).mono ?_); rintro e wa ⟨rfl, rfl⟩)
                      | fail)
                all_goals go_wp2_with fail
                all_goals exact bodyPost_ret (v := ofV 2 n f _) (by simp [results, ofV, Tryd.f60, go_sem, t0, t1, t2]) rfl ⟨2, n, f, rfl, fun _ => ⟨rfl, rfl, rfl⟩, HY.out.drew⟩
              · rw [b1, b2] at HR
                rw [b2] at hc1
                have HR2 := Lib.hid (show false = r by rw [← HR.out]; rfl)
                obtain rfl := HR2.out
                clear b2 hc2 HR HR2
                go_wp2_with fail
                refine wp_region_held_drew (S := (fun w' => w'.cell? ⟨w.heap.size + 2, 0, none⟩ = some (.int .i64 2) ∧ w'.cell? ⟨w.heap.size + 2, 1, none⟩ = some (.int .i64 n) ∧ w'.cell? ⟨w.heap.size + 2, 2, none⟩ = some (.int .u64 f) ∧ w'.cell? ⟨w.heap.size, 1, none⟩ = some (.int .i64 n) ∧ w'.cell? ⟨w.heap.size, 2, none⟩ = some (.float .f64 f))) (by kernel_rfl) ⟨d0, d1, d2, c1, c2⟩ (fun hHeld => ?_)
                refine wpAnyH_take (i := 0) (v := ?_) rfl (by kernel_rfl) (by kernel_rfl) (by kernel_rfl) (fun _ _ _ h => h) (Or.inl ⟨by rfl, ?_⟩) hHeld ?_
                rotate_left
                · intro w hSw
                  (try dsimp only at hSw)
                  go_split_ands
                  go_simp
                  try with_reducible rfl
                try dsimp only [Act.put]
                refine wpAnyH_take (i := 1) (v := ?_) rfl (by kernel_rfl) (by kernel_rfl) (by kernel_rfl) (fun _ _ _ h => h) (Or.inl ⟨by rfl, ?_⟩) hHeld ?_
                rotate_left
                · intro w hSw
                  (try dsimp only at hSw)
                  go_split_ands
                  go_simp
                  try with_reducible rfl
                try dsimp only [Act.put]
                refine wpAnyH_take (i := 2) (v := ?_) rfl (by kernel_rfl) (by kernel_rfl) (by kernel_rfl) (fun _ _ _ h => h) (Or.inl ⟨by rfl, ?_⟩) hHeld ?_
                rotate_left
                · intro w hSw
                  (try dsimp only at hSw)
                  go_split_ands
                  go_simp
                  try with_reducible rfl
                try dsimp only [Act.put]
                refine wpAnyH_take (i := 3) (v := ?_) rfl (by kernel_rfl) (by kernel_rfl) (by kernel_rfl) (fun _ _ _ h => h) (Or.inl ⟨by rfl, ?_⟩) hHeld ?_
                rotate_left
                · intro w hSw
                  (try dsimp only at hSw)
                  go_split_ands
                  go_simp
                  try with_reducible rfl
                try dsimp only [Act.put]
                refine wpAnyH_take (i := 4) (v := ?_) rfl (by kernel_rfl) (by kernel_rfl) (by kernel_rfl) (fun _ _ _ h => h) (Or.inl ⟨by rfl, ?_⟩) hHeld ?_
                rotate_left
                · intro w hSw
                  (try dsimp only at hSw)
                  go_split_ands
                  go_simp
                  try with_reducible rfl
                try dsimp only [Act.put]
                refine wpAnyH_take (i := 5) (v := ?_) rfl (by kernel_rfl) (by kernel_rfl) (by kernel_rfl) (fun _ _ _ h => h) (Or.inl ⟨by rfl, ?_⟩) hHeld ?_
                rotate_left
                · intro w hSw
                  (try dsimp only at hSw)
                  go_split_ands
                  go_simp
                  try with_reducible rfl
                try dsimp only [Act.put]
                refine wpAnyH_take (i := 6) (v := ?_) rfl (by kernel_rfl) (by kernel_rfl) (by kernel_rfl) (fun _ _ _ h => h) (Or.inl ⟨by rfl, ?_⟩) hHeld ?_
                rotate_left
                · intro w hSw
                  (try dsimp only at hSw)
                  go_split_ands
                  go_simp
                  try with_reducible rfl
                try dsimp only [Act.put]
                refine wpAnyH_ready (rs := [7]) (by kernel_rfl) (by simp) ?_
                refine AllReadyH.cons rfl (fun K hK => ?_) AllReadyH.nil
                clear hHeld
                go_simp
                ((with_reducible refine (hc1 _).mono ?_); rintro e wa ⟨rfl, rfl⟩)
                refine hK.out _ _ (by first | assumption | go_keep) (fun hHeld => ?_)
                clear hK K
                refine wpAnyH_take (i := 8) (v := ?_) rfl (by kernel_rfl) (by kernel_rfl) (by kernel_rfl) (fun _ _ _ h => h) (Or.inl ⟨by rfl, ?_⟩) hHeld ?_
                rotate_left
                · intro w hSw
                  (try dsimp only at hSw)
                  go_split_ands
                  go_simp
                  try with_reducible rfl
                try dsimp only [Act.put]
                refine wpAnyH_take (i := 9) (v := ?_) rfl (by kernel_rfl) (by kernel_rfl) (by kernel_rfl) (fun _ _ _ h => h) (Or.inl ⟨by rfl, ?_⟩) hHeld ?_
                rotate_left
                · intro w hSw
                  (try dsimp only at hSw)
                  go_split_ands
                  go_simp
                  try with_reducible rfl
                try dsimp only [Act.put]
                refine wpAnyH_take (i := 10) (v := ?_) rfl (by kernel_rfl) (by kernel_rfl) (by kernel_rfl) (fun _ _ _ h => h) (Or.inl ⟨by rfl, ?_⟩) hHeld ?_
                rotate_left
                · intro w hSw
                  (try dsimp only at hSw)
                  go_split_ands
                  go_simp
                  try with_reducible rfl
                try dsimp only [Act.put]
                refine wpAnyH_take (i := 11) (v := undef) rfl (by kernel_rfl) (by kernel_rfl) (by kernel_rfl) (fun _ _ _ h => h) (Or.inr ⟨by rfl, rfl⟩) hHeld ?_
                try dsimp only [Act.put]
                refine wpAnyH_take (i := 12) (v := undef) rfl (by kernel_rfl) (by kernel_rfl) (by kernel_rfl) (fun _ _ _ h => h) (Or.inr ⟨by rfl, rfl⟩) hHeld ?_
                try dsimp only [Act.put]
                refine wpAnyH_take (i := 13) (v := undef) rfl (by kernel_rfl) (by kernel_rfl) (by kernel_rfl) (fun _ _ _ h => h) (Or.inr ⟨by rfl, rfl⟩) hHeld ?_
                try dsimp only [Act.put]
                refine wpAnyH_take (i := 14) (v := undef) rfl (by kernel_rfl) (by kernel_rfl) (by kernel_rfl) (fun _ _ _ h => h) (Or.inr ⟨by rfl, rfl⟩) hHeld ?_
                try dsimp only [Act.put]
                refine wpAnyH_take (i := 15) (v := ?_) rfl (by kernel_rfl) (by kernel_rfl) (by kernel_rfl) (fun _ _ _ h => h) (Or.inl ⟨by rfl, ?_⟩) hHeld ?_
                rotate_left
                · intro w hSw
                  (try dsimp only at hSw)
                  go_split_ands
                  go_simp
                  try with_reducible rfl
                try dsimp only [Act.put]
                refine wpAnyH_ready (rs := [16]) (by kernel_rfl) (by simp) ?_
                refine AllReadyH.cons rfl (fun K hK => ?_) AllReadyH.nil
                clear hHeld
                go_simp
                refine hK.out _ _ (by first | assumption | go_keep) (fun hHeld => ?_)
                clear hK K
                refine wpAnyH_ready (rs := [17]) (by kernel_rfl) (by simp) ?_
                refine AllReadyH.cons rfl (fun K hK => ?_) AllReadyH.nil
                clear hHeld
                go_simp
                refine hK.out _ _ (by first | assumption | go_keep) (fun hHeld => ?_)
                clear hK K
                refine wpAnyH_done (by kernel_rfl) ?_ _
                all_goals go_wp2_with fail
                all_goals exact bodyPost_ret (v := ofV 2 n f _) (by simp [results, ofV, Tryd.f60, go_sem, t0, t1, t2]) rfl ⟨2, n, f, rfl, fun _ => ⟨rfl, rfl, rfl⟩, HY.out.drew⟩
          · have k1 : (k == 1) = false := beq_eq_false_iff_ne.2 hk1
            have k2 : (k == 2) = false := beq_eq_false_iff_ne.2 hk2
            have hN : numV k n f ⟨#[]⟩ 0 = false := by
              unfold numV
              rw [if_neg hk1, if_neg hk2]
            rw [hN] at HR
            obtain rfl := HR.out
            clear hk1 hk2 hN
            go_wp2_with fail
            exact bodyPost_ret (v := ofV 0 0 0 false) (by simp [results, ofV, Tryd.f60, go_sem, r0, r1, r2]) rfl ⟨0, 0, 0, rfl, (fun h => by cases h), HX.out⟩
      · have e1 : decide ((0 : Int) < (m : Int)) = true := decide_eq_true (by omega)
        have e2 : decide (0 < m) = true := decide_eq_true (by omega)
        have hN : numV k n f ⟨#[]⟩ m = false := by
          unfold numV
          rw [decide_eq_false hm]
          simp
        rw [hN] at HR
        obtain rfl := HR.out
        clear hm hN
        go_wp2_with fail
        exact bodyPost_ret (v := ofV 0 0 0 false) (by simp [results, ofV, Tryd.f60, go_sem, r0, r1, r2]) rfl ⟨0, 0, 0, rfl, (fun h => by cases h), HX.out⟩
    · have hs1 : ¬ s.toList = [] := fun h => hs ((str_nil s).1 h)
      have hs2 : s.toList.isEmpty = false := by
        cases hl : s.toList with
        | nil => exact absurd hl hs1
        | cons _ _ => rfl
      have hN : numV k n f s m = false := by
        unfold numV
        rw [decide_eq_false hs]
        simp
      rw [hN] at HR
      obtain rfl := HR.out
      clear hs hN
      go_wp2_with fail
      exact bodyPost_ret (v := ofV 0 0 0 false) (by simp [results, ofV, Tryd.f60, go_sem, r0, r1, r2]) rfl ⟨0, 0, 0, rfl, (fun h => by cases h), HX.out⟩

end Go.Proofs.YtlpifchimnnfdaaDoor
