/- The program's walk over a term. -/
import Derived.Test.YtdimmomjildpcaaTmCheck
import Derived.Deep.DeepCutAuto
import Derived.Deep.CutRange
import Derived.Deep.CutBlock
namespace Go.Proofs.Ytdimmomjildpcaa
open Go.RowKit
attribute [local irreducible] Ext
attribute [local go_sem] run_store_float

theorem max_ints (ats : Array TypeId) (ty : TypeId) (k k' : IntKind) (x y : Int) : Builtin.max_ ats ty #[.int k x, .int k' y] = pure (.int k (max x y)) := by
  have e : (if x < y then y else x) = max x y := by
    rw [Int.max_def]
    split <;> split <;> omega
  simp only [Builtin.max_, List.foldlM_cons, List.foldlM_nil, Builtin.max2, gt_iff_lt, e]
  rfl
attribute [local go_sem] max_ints

mutual
/-- A term's floats have 64 bits. -/
def okT : Tm → Prop
  | .mk _ _ f _ l => f < 18446744073709551616 ∧ okL l
def okL : List Tm → Prop
  | [] => True
  | x :: xs => okT x ∧ okL xs
end

theorem ok_mem {l : List Tm} (h : okL l) {x : Tm} (hx : x ∈ l) : okT x := by
  induction l with
  | nil => cases hx
  | cons y ys ih =>
    rcases List.mem_cons.1 hx with rfl | hx
    · exact h.1
    · exact ih h.2 hx

/-- The walk's state in its cell. -/
def LkAt (w : World) (b : Nat) (q : Lk) : Prop := w.heap[b]? = some (.cells #[.int .i64 q.words, .int .i64 q.depth, .bool q.bad, .bool q.over] 64 (0, 0))

theorem LkAt.cells {w : World} {b : Nat} {q : Lk} (h : LkAt w b q) : w.cell? ⟨b, 0, none⟩ = some (.int .i64 q.words) ∧ w.cell? ⟨b, 1, none⟩ = some (.int .i64 q.depth) ∧ w.cell? ⟨b, 2, none⟩ = some (.bool q.bad) ∧ w.cell? ⟨b, 3, none⟩ = some (.bool q.over) ∧
    w.frozen? ⟨b, 0, none⟩ = false ∧ w.frozen? ⟨b, 1, none⟩ = false ∧ w.frozen? ⟨b, 2, none⟩ = false ∧ w.frozen? ⟨b, 3, none⟩ = false :=
  ⟨by simp [cell_of_heap h], by simp [cell_of_heap h], by simp [cell_of_heap h], by simp [cell_of_heap h], free_of_heap h 0, free_of_heap h 1, free_of_heap h 2, free_of_heap h 3⟩

theorem LkAt.ext {w w' : World} {b : Nat} {q : Lk} (h : LkAt w b q) (hE : Ext w w') : LkAt w' b q := hE.keep h

theorem LkAt.words {w : World} {b : Nat} {q : Lk} (h : LkAt w b q) (x : Int) : LkAt (w.setCell ⟨b, 0, none⟩ (.int .i64 x)) b ⟨x, q.depth, q.bad, q.over⟩ := by unfold LkAt at h ⊢; simpa using heap_set (o := 0) h (.int .i64 x)
theorem LkAt.depth {w : World} {b : Nat} {q : Lk} (h : LkAt w b q) (x : Int) : LkAt (w.setCell ⟨b, 1, none⟩ (.int .i64 x)) b ⟨q.words, x, q.bad, q.over⟩ := by unfold LkAt at h ⊢; simpa using heap_set (o := 1) h (.int .i64 x)
theorem LkAt.bad {w : World} {b : Nat} {q : Lk} (h : LkAt w b q) (x : Bool) : LkAt (w.setCell ⟨b, 2, none⟩ (.bool x)) b ⟨q.words, q.depth, x, q.over⟩ := by unfold LkAt at h ⊢; simpa using heap_set (o := 2) h (.bool x)
theorem LkAt.over {w : World} {b : Nat} {q : Lk} (h : LkAt w b q) (x : Bool) : LkAt (w.setCell ⟨b, 3, none⟩ (.bool x)) b ⟨q.words, q.depth, q.bad, x⟩ := by unfold LkAt at h ⊢; simpa using heap_set (o := 3) h (.bool x)

theorem LkAt.mod {w : World} (b o : Nat) (v : Value) : Mod (fun k => k = b) w (w.setCell ⟨b, o, none⟩ v) := (Mod.refl (fun k => k = b) w).setCell (p := ⟨b, o, none⟩) (.inl rfl) v

theorem walkL_drop {l : List Tm} {j : Nat} {x : Tm} (hx : l[j]? = some x) (d : Int) (q : Lk) : walkL (l.drop j) d q = if (walkT x d q).over then walkT x d q else walkL (l.drop (j + 1)) d (walkT x d q) := by
  have hj := (List.getElem?_eq_some_iff.1 hx).1
  have e : l.drop j = x :: l.drop (j + 1) := by
    rw [List.drop_eq_getElem_cons hj]
    congr 1
    exact (List.getElem?_eq_some_iff.1 hx).2
  rw [e]
  rfl

set_option maxRecDepth 100000 in
set_option maxHeartbeats 2000000 in
theorem walk_any (t : Tm) : ∀ (own : Bool) (G : Nat → Prop) (v : Value) (b : Nat) (d : Int) (q : Lk) (w : World), TmV w own G v t → LkAt w b q → (∀ k, G k → k ≠ b) → cntT t ≤ 100000000 → okT t → q.over = false → 0 ≤ q.words → q.words ≤ 65536 → -1000000000 ≤ d → d ≤ 1000000000 →
    Calls Try.prog 36 #[.pointer (some ⟨b, 0, none⟩), v, .int .i64 d] w fun e w' => (∃ u, e = .returned u) ∧ LkAt w' b (walkT t d q) ∧ Mod (fun k => k = b) w w' := by
  induction t using Tm.ind with
  | h t ih =>
    obtain ⟨k, n, f, s, L⟩ := t
    intro own G v b d q w hv hq hG hcnt hok hov hw0 hw1 hd0 hd1
    obtain ⟨so, cap, rfl, hrow⟩ := hv.parts
    obtain ⟨words, depth, bad, over⟩ := q
    simp only [Tm.l] at ih
    simp only [cntT] at hcnt
    simp only [okT] at hok
    dsimp only at hov hw0 hw1
    subst hov
    have hon := own_nonneg (.mk k n f s L)
    simp only [walkT, ownT, fieldsT, Tm.kind, Tm.n, Tm.f, Tm.s, Tm.l] at hon ⊢
    clear hv
    have hll := len_cnt L
    have hown := fun w => pown_any k n f s so L.length cap w (by omega)
    have hpl := fun w => plain_any k n f s so L.length cap w hok.1
    obtain ⟨o, ho⟩ : ∃ o, ownV k L.length = o := ⟨_, rfl⟩
    have hob : o ≤ 1000000000 := by
      rw [← ho]
      unfold ownV
      repeat' split
      all_goals omega
    obtain ⟨p, hp⟩ : ∃ p, fieldsV k n f s L.length = p := ⟨_, rfl⟩
    obtain ⟨mx, hmx⟩ : ∃ mx, max depth d = mx := ⟨_, rfl⟩
    simp only [ho] at hown hon ⊢
    simp only [hp] at hpl ⊢
    rw [hmx]
    have HE := Lib.hid ((Ext.refl w).alloc (.cells #[.int .i64 k, .int .i64 n, .float .f64 f, .string s, .slice so L.length cap] 25))
    have HR := Lib.hid (hrow.ext HE.out)
    have HB := Lib.hid (RBox.new w k n f s so L.length cap)
    have HQ := Lib.hid (hq.ext HE.out)
    have HBN := Lib.hid (heap_lt hq)
    obtain ⟨c0, c1, c2, c3, f0, f1, f2, f3⟩ := HQ.out.cells
    dsimp only at c0 c1 c2 c3
    obtain ⟨w1, hw1⟩ : ∃ w1, w.alloc (.cells #[.int .i64 k, .int .i64 n, .float .f64 f, .string s, .slice so L.length cap] 25) = w1 := ⟨_, rfl⟩
    have HW := Lib.hid hw1
    rw [hw1] at HE HR HB HQ c0 c1 c2 c3 f0 f1 f2 f3
    have hq2 := HQ.out.depth mx
    dsimp only at hq2
    have hM2 : Mod (fun k => k = b) w (w1.setCell ⟨b, 1, none⟩ (.int .i64 mx)) := (mod_of_ext HE.out).trans (LkAt.mod b 1 _) (fun _ _ h => h)
    clear hrow hq hw1
    by_cases h1 : 200 < d
    · have b1 : decide (200 < d) = true := decide_eq_true h1
      rw [if_pos h1]
      have hq3 := hq2.over true
      dsimp only at hq3
      have hM3 : Mod (fun k => k = b) w ((w1.setCell ⟨b, 1, none⟩ (.int .i64 mx)).setCell ⟨b, 3, none⟩ (.bool true)) := hM2.trans (LkAt.mod b 3 _) (fun _ _ h => h)
      have HX := Lib.hid (And.intro hq3 hM3)
      clear h1 ih hown ho hcnt hll hpl hq2 hM2 hq3 hM3 HR HB HQ
      go_enter Try.func36, Try.ntmps36
      go_upto_region 1 with (fail)
      rw [HW.out]
      go_wp2_with fail
      ((try simp only [Exit.inBlock, Exit.then]); refine bodyPost_ret (results_none rfl _ _ _) rfl ?_)
      exact ⟨⟨_, rfl⟩, HX.out.1, HX.out.2⟩
    have b1 : decide (200 < d) = false := decide_eq_false h1
    rw [if_neg h1]
    have HQ2 := Lib.hid hq2
    have HM2 := Lib.hid hM2
    have HB2 := Lib.hid (HB.out.keep (LkAt.mod b 1 (.int .i64 mx)) (by have := HBN.out; have := HE.out.size; omega))
    have HR2 := Lib.hid (HR.out.keep (LkAt.mod b 1 (.int .i64 mx)) hG)
    have e1 : IntKind.i64.wrap (words + o) = words + o := IntWalk.i64_in _ (by omega)
    clear hq2 hM2
    obtain ⟨w2, hw2⟩ : ∃ w2, w1.setCell ⟨b, 1, none⟩ (.int .i64 mx) = w2 := ⟨_, rfl⟩
    rw [hw2] at HQ2 HM2 HB2 HR2
    have HW2 := Lib.hid hw2
    clear hw2
    -- region 4, whatever follows
    by_cases h2 : 65536 < words + o
    · have b2 : decide (65536 < words + o) = true := decide_eq_true h2
      rw [if_pos h2]
      clear h1 h2 ih ho hcnt hll hpl
      go_enter Try.func36, Try.ntmps36
      go_upto_region 1 with (fail)
      rw [HW.out]
      go_upto_region 4 with (fail)
      rw [HW2.out]
      clear c0 c1 c2 c3 f0 f1 f2 f3
      obtain ⟨c0, c1, c2, c3, f0, f1, f2, f3⟩ := HQ2.out.cells
      obtain ⟨z0, z1, z2, z3, z4⟩ := HB2.out.cells
      dsimp only at c0 c1 c2 c3
      have ho2 := hown w2.drew
      go_region_law (first
        | (go_simp; go_at_call 40; (with_reducible refine ho2.mono ?_); rintro e w3 ⟨rfl, hE3⟩; have hE3 := (Ext.refl w2).drew.trans hE3; have hq3 := HQ2.out.ext hE3; obtain ⟨d0, d1, d2, d3, g0, g1, g2, g3⟩ := hq3.cells; dsimp only at d0 d1 d2 d3; have HQ3 := Lib.hid (hq3.words (words + o)); have HE3 := Lib.hid hE3; clear hE3 hq3)
        | fail)
      all_goals go_wp2
      all_goals ((try simp only [Exit.inBlock, Exit.then]); refine bodyPost_ret (results_none rfl _ _ _) rfl ?_)
      all_goals
        have hq4 := HQ3.out.over true
        dsimp only at hq4
        exact ⟨⟨_, rfl⟩, hq4, ((HM2.out.trans (mod_of_ext HE3.out) (fun _ _ h => h)).trans (LkAt.mod b 0 _) (fun _ _ h => h)).trans (LkAt.mod b 3 _) (fun _ _ h => h)⟩
    have b2 : decide (65536 < words + o) = false := decide_eq_false h2
    rw [if_neg h2]
    obtain ⟨F, hF⟩ : ∃ F, walkL L (d + 1) ⟨words + o, mx, bad || !p, false⟩ = F := ⟨_, rfl⟩
    rw [hF]
    have HF := Lib.hid hF
    have e2 : IntKind.i64.wrap (d + 1) = d + 1 := IntWalk.i64_in _ (by omega)
    have HIH := Lib.hid ih
    have HC := Lib.hid (And.intro hcnt hll)
    have HO := Lib.hid hok.2
    have HG := Lib.hid hG
    have HD := Lib.hid (And.intro hd0 (And.intro hd1 (And.intro hw0 (And.intro hw1 (And.intro h1 (And.intro h2 hon))))))
    have HPL := Lib.hid hpl
    clear h1 h2 ih ho hcnt hll hF hp hpl hok hG hd0 hd1 hw0 hw1 hon hob
    go_enter Try.func36, Try.ntmps36
    go_upto_region 1 with (fail)
    rw [HW.out]
    go_upto_region 4 with (fail)
    rw [HW2.out]
    clear c0 c1 c2 c3 f0 f1 f2 f3
    obtain ⟨c0, c1, c2, c3, f0, f1, f2, f3⟩ := HQ2.out.cells
    obtain ⟨z0, z1, z2, z3, z4⟩ := HB2.out.cells
    dsimp only at c0 c1 c2 c3
    have ho2 := hown w2.drew
    go_cut [22] from 23 to 30 (fun _ wx => Hid (LkAt wx b ⟨words + o, mx, bad, false⟩) ∧ Hid (∃ w3, Ext w2 w3 ∧ wx = w3.setCell ⟨b, 0, none⟩ (.int .i64 (words + o))))
    case first =>
      go_region_law (first
        | (go_simp; go_at_call 40; (with_reducible refine ho2.mono ?_); rintro e w3 ⟨rfl, hE3⟩; have hE3 := (Ext.refl w2).drew.trans hE3; have hq3 := HQ2.out.ext hE3; obtain ⟨d0, d1, d2, d3, g0, g1, g2, g3⟩ := hq3.cells; dsimp only at d0 d1 d2 d3; have HQ3 := Lib.hid (hq3.words (words + o)); have HE3 := Lib.hid hE3; clear hE3 hq3)
        | fail)
      all_goals go_wp2
      all_goals go_meet
      all_goals exact ⟨HQ3, Lib.hid ⟨w3, HE3.out, rfl⟩⟩
    case rest =>
      obtain ⟨HQ4, HX⟩ := hcut
      obtain ⟨w3, hE3, rfl⟩ := HX.out
      have hbn := HBN.out
      have hM4 : Mod (fun k => k = b) w (w3.setCell ⟨b, 0, none⟩ (.int .i64 (words + o))) := (HM2.out.trans (mod_of_ext hE3) (fun _ _ h => h)).trans (LkAt.mod b 0 _) (fun _ _ h => h)
      have hB4 := (HB2.out.ext hE3).keep (LkAt.mod b 0 (.int .i64 (words + o))) (by omega)
      have hR4 := (HR2.out.ext hE3).keep (LkAt.mod b 0 (.int .i64 (words + o))) HG.out
      clear HX hE3 c0 c1 c2 c3 f0 f1 f2 f3 z0 z1 z2 z3 z4 ho2 hown HQ HB HR HR2 HB2 HM2 HQ2 HW HW2 HE
      generalize w3.setCell ⟨b, 0, none⟩ (.int .i64 (words + o)) = w4 at HQ4 hM4 hB4 hR4 ⊢
      have HM4 := Lib.hid hM4
      have HB4 := Lib.hid hB4
      have HR4 := Lib.hid hR4
      clear hM4 hB4 hR4 w1 w2 w3
      obtain ⟨c0, c1, c2, c3, f0, f1, f2, f3⟩ := HQ4.out.cells
      obtain ⟨z0, z1, z2, z3, z4⟩ := HB4.out.cells
      dsimp only at c0 c1 c2 c3
      go_upto_region 7 with (fail)
      go_cut [39] from 40 to 50 (fun _ wx => Hid (LkAt wx b ⟨words + o, mx, bad || !p, false⟩) ∧ Hid (∃ w5, Ext w4 w5 ∧ wx = w5.setCell ⟨b, 2, none⟩ (.bool (bad || !p))))
      case first =>
        have hq5 := HQ4.out.bad (bad || !p)
        dsimp only at hq5
        have HQ5 := Lib.hid hq5
        clear hq5
        cases bad with
        | true =>
          go_wp2_with fail
          go_meet
          exact ⟨HQ5, Lib.hid ⟨w4, Ext.refl _, rfl⟩⟩
        | false =>
          go_wp2_with (go_at_call 41; (with_reducible refine (HPL.out _).mono ?_); rintro e w5 ⟨rfl, hE5⟩; have hq6 := HQ4.out.ext hE5; obtain ⟨d0, d1, d2, d3, g0, g1, g2, g3⟩ := hq6.cells; dsimp only at d0 d1 d2 d3; have HQ6 := Lib.hid (hq6.bad (!p)); have HE5 := Lib.hid hE5; clear hE5 hq6)
          go_meet
          exact ⟨HQ6, Lib.hid ⟨w5, HE5.out, rfl⟩⟩
      case rest =>
        obtain ⟨HQ5, HX⟩ := hcut
        obtain ⟨w5, hE5, rfl⟩ := HX.out
        have hM6 : Mod (fun k => k = b) w (w5.setCell ⟨b, 2, none⟩ (.bool (bad || !p))) := (HM4.out.trans (mod_of_ext hE5) (fun _ _ h => h)).trans (LkAt.mod b 2 _) (fun _ _ h => h)
        have hB6 := (HB4.out.ext hE5).keep (LkAt.mod b 2 (.bool (bad || !p))) (by omega)
        have hR6 := (HR4.out.ext hE5).keep (LkAt.mod b 2 (.bool (bad || !p))) HG.out
        clear HX hE5 c0 c1 c2 c3 f0 f1 f2 f3 z0 z1 z2 z3 z4 HQ4 HM4 HB4 HR4 HPL
        generalize w5.setCell ⟨b, 2, none⟩ (.bool (bad || !p)) = w6 at HQ5 hM6 hB6 hR6 ⊢
        have HM6 := Lib.hid hM6
        have HB6 := Lib.hid hB6
        have HR6 := Lib.hid hR6
        clear hM6 hB6 hR6 w4 w5 e1 hmx
        obtain ⟨_, _, _, _, z4⟩ := HB6.out.cells
        go_wp2_with fail
        go_loopg [7, 54] L.length (fun g x i wr => Hid (Mod (fun k => k = b) w6 wr) ∧ ∃ (j : Nat) (q' : Lk), j + g = L.length ∧ i = .int .i64 j ∧ Hid (LkAt wr b q' ∧ walkL (L.drop j) (d + 1) q' = F ∧ q'.over = false ∧ 0 ≤ q'.words ∧ q'.words ≤ 65536))
        case atStart => exact ⟨Lib.hid (Mod.refl _ _), 0, ⟨words + o, mx, bad || !p, false⟩, by omega, rfl, Lib.hid ⟨HQ5.out, HF.out, rfl, by have := HD.out; dsimp only; omega, by have := HD.out; dsimp only; omega⟩⟩
        case round =>
          obtain ⟨HMr, j, q', hj, rfl, HY⟩ := hrel
          by_cases hlt : j < L.length
          · have c1 : decide ((j : Int) < (L.length : Int)) = true := decide_eq_true (by omega)
            have c1' : decide (j < L.length) = true := decide_eq_true hlt
            obtain ⟨x, hx⟩ : ∃ x, L[j]? = some x := ⟨L[j]'hlt, List.getElem?_eq_getElem hlt⟩
            obtain ⟨bb, oo, so', cap', rfl, q0, q1, q2, q3, q4, htm⟩ := (HR6.out.keep HMr.out HG.out).elem hx
            have hmem := List.mem_of_getElem? hx
            obtain ⟨hq1, hq2, hq3, hq4, hq5⟩ := HY.out
            have hEw : Ext wr (wr.alloc (.cells #[.int .i64 x.kind, .int .i64 x.n, .float .f64 x.f, .string x.s, .slice so' x.l.length cap'] 25)) := (Ext.refl wr).alloc _
            have hcall := HIH.out x hmem own G _ b (d + 1) q' _ (htm.ext hEw) (hq1.ext hEw) HG.out (by have := HC.out; have := cnt_mem hmem; omega) (ok_mem HO.out hmem) hq3 hq4 hq5 (by have := HD.out; omega) (by have := HD.out; omega)
            have hwm := walk_meas x (d + 1) q' hq3 hq5
            have hdr := walkL_drop hx (d + 1) q'
            obtain ⟨r, hr⟩ : ∃ r, walkT x (d + 1) q' = r := ⟨_, rfl⟩
            rw [hr] at hcall hwm hdr
            unfold elV at hcall
            have e3 : IntKind.i64.wrap ((j : Int) + 1) = ((j + 1 : Nat) : Int) := by rw [IntWalk.i64_in _ (by have := HC.out; omega)]; rfl
            have HEw := Lib.hid hEw
            have HR1 := Lib.hid (And.intro hwm (And.intro hdr hq2))
            have HW0 := Lib.hid hq4
            clear htm hx hr hdr hmem hwm hq1 hq2 hq3 hq4 hq5 hEw z4
            go_wp2_with fail
            refine hcall.mono ?_
            rintro e w7 ⟨⟨u, rfl⟩, hq7, hM7⟩
            have HM7 := Lib.hid ((HMr.out.trans (mod_of_ext HEw.out) (fun _ _ h => h)).trans hM7 (fun _ _ h => h))
            obtain ⟨d0, d1, d2, d3, g0, g1, g2, g3⟩ := hq7.cells
            have HQ7 := Lib.hid hq7
            clear hcall q0 q1 q2 q3 q4 hM7 hq7
            cases hro : r.over with
            | true =>
              rw [hro] at d3
              have HRES := Lib.hid (show F = r by obtain ⟨_, a2, a3⟩ := HR1.out; rw [← a3, a2, if_pos hro])
              clear hro
              go_wp2_with fail
              ((try simp only [Exit.inBlock, Exit.then]); refine bodyPost_ret (results_none rfl _ _ _) rfl ?_)
              exact ⟨⟨_, rfl⟩, by rw [HRES.out]; exact HQ7.out, HM6.out.trans HM7.out (fun _ _ h => h)⟩
            | false =>
              rw [hro] at d3
              have HN := Lib.hid (show walkL (L.drop (j + 1)) (d + 1) r = F ∧ r.over = false ∧ 0 ≤ r.words ∧ r.words ≤ 65536 by
                obtain ⟨a1, a2, a3⟩ := HR1.out
                refine ⟨by rw [← a3, a2, if_neg (by rw [hro]; decide)], hro, ?_, ?_⟩
                · rcases a1 with ⟨_, a1⟩ | ⟨b1, b2, b3, b4, b5⟩
                  · rw [hro] at a1; cases a1
                  · have := HW0.out; omega
                · rcases a1 with ⟨_, a1⟩ | ⟨b1, b2, b3, b4, b5⟩
                  · rw [hro] at a1; cases a1
                  · exact b4)
              clear hro
              go_wp2_with fail
              go_roundg (L.length - j - 1)
              case measure => omega
              case rel => exact ⟨HM7, j + 1, r, by omega, rfl, Lib.hid ⟨HQ7.out, HN.out⟩⟩
          · have c1 : decide ((j : Int) < (L.length : Int)) = false := decide_eq_false (by omega)
            have c1' : decide (j < L.length) = false := decide_eq_false hlt
            have hres : F = q' := by
              have := HY.out.2.1
              rw [List.drop_eq_nil_of_le (by omega)] at this
              exact this.symm
            have HRES := Lib.hid hres
            clear hres
            go_wp2_with fail
            go_end0
            exact ⟨⟨_, rfl⟩, by rw [HRES.out]; exact HY.out.1, HM6.out.trans HMr.out (fun _ _ h => h)⟩

end Go.Proofs.Ytdimmomjildpcaa
