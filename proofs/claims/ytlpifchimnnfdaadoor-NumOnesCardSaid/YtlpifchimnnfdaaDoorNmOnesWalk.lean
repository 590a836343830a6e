/- NumOnes' walk: negatives, sizes, floats, whole numbers: both tell the same. -/
import Derived.Test.YtlpifchimnnfdaaDoorNmRWhole
import Derived.Test.YtlpifchimnnfdaaDoorNmAbs
import Derived.Test.YtlpifchimnnfdaaDoorNmKnown
namespace Go.Proofs.YtlpifchimnnfdaaDoor
open Go.RowKit
attribute [local irreducible] Ext
attribute [local go_sem] run_store_float

theorem any_of {F : FuncId} {args : Array Value} {V : Value} (hf : ∃ k n f e, V = nV k n f e) (h : ∀ w, Calls Tryd.prog F args w fun e w' => e = .returned V ∧ Ext w w') (w : World) : Calls Tryd.prog F args w fun e w' => AnyPost w V e w' := by
  obtain ⟨k, n, f, e, rfl⟩ := hf
  exact (h w).mono (fun _ _ ⟨h1, h2⟩ => ⟨k, n, f, none, 0, e, h1, rfl, h2⟩)

theorem negV_form (k n : Int) (f : Nat) (r : Bool) : ∃ a b c d, negV k n f r = nV a b c d := by
  unfold negV
  split
  · exact ⟨_, _, _, _, rfl⟩
  · split
    · exact nV_form (.inl (mkI_form _))
    · exact nV_form (.inr (mkF_form _))

theorem absV_form (k n : Int) (f : Nat) (r : Bool) : ∃ a b c d, absV k n f r = nV a b c d := by
  unfold absV
  split
  · exact ⟨_, _, _, _, rfl⟩
  · split
    · exact nV_form (.inl (mkI_form _))
    · exact nV_form (.inr (mkF_form _))

theorem reV_form (k n : Int) (f : Nat) (r : Bool) : ∃ a b c d, reV k n f r = nV a b c d := by
  unfold reV
  split
  · exact ⟨_, _, _, _, rfl⟩
  · exact nV_form (.inr (mkF_form _))

theorem whV_form (j : Nat) (k n : Int) (f : Nat) (r : Bool) : ∃ a b c d, whV j k n f r = nV a b c d := by
  unfold whV
  split
  · exact ⟨_, _, _, _, rfl⟩
  · split
    · exact nV_form (.inl (mkI_form _))
    · exact nV_form (.inl (mkI_form _))

/-- Both make whole alike, whatever the way is called. -/
theorem wholes_same (how : ByteArray) (k n : Int) (f : Nat) (s : ByteArray) (so : Option Addr) (m cap : Nat) (hf : f < 18446744073709551616) : ∃ V, (∃ a b c d, V = nV a b c d) ∧
    (∀ w, Calls Tryd.prog 53 #[.string how, .agg #[.int .i64 k, .int .i64 n, .float .f64 f, .string s, .slice so m cap]] w fun e w' => e = .returned V ∧ Ext w w') ∧
    (∀ w, Calls Tryd.prog 54 #[.string how, .agg #[.int .i64 k, .int .i64 n, .float .f64 f, .string s, .slice so m cap]] w fun e w' => AnyPost w V e w') := by
  by_cases h0 : how.toList = [116, 114, 117, 110, 99]
  · exact ⟨_, whV_form 0 k n f _, pwhole_0 how h0 k n f s so m cap hf, rwhole_0 how h0 k n f s so m cap⟩
  · by_cases h1 : how.toList = [114, 111, 117, 110, 100]
    · exact ⟨_, whV_form 1 k n f _, pwhole_1 how h1 k n f s so m cap hf, rwhole_1 how h1 k n f s so m cap⟩
    · by_cases h2 : how.toList = [102, 108, 111, 111, 114]
      · exact ⟨_, whV_form 2 k n f _, pwhole_2 how h2 k n f s so m cap hf, rwhole_2 how h2 k n f s so m cap⟩
      · by_cases h3 : how.toList = [99, 101, 105, 108]
        · exact ⟨_, whV_form 3 k n f _, pwhole_3 how h3 k n f s so m cap hf, rwhole_3 how h3 k n f s so m cap⟩
        · have hb : ∀ j, j < 4 → (how.toList == howL j) = false := by
            intro j hj
            match j, hj with
            | 0, _ => exact beq_eq_false_iff_ne.2 h0
            | 1, _ => exact beq_eq_false_iff_ne.2 h1
            | 2, _ => exact beq_eq_false_iff_ne.2 h2
            | 3, _ => exact beq_eq_false_iff_ne.2 h3
          exact ⟨_, ⟨_, _, _, _, rfl⟩, pwhole_bad how hb k n f s so m cap hf, rwhole_bad how hb k n f s so m cap⟩

/-- An argument's box, and two boxes that a law has made since world w. -/
structure Tri (w W : World) (a b c : Nat) (k n : Int) (f : Nat) (s : ByteArray) (so : Option Addr) (m cap : Nat) (k1 n1 : Int) (f1 : Nat) (k2 n2 : Int) (f2 : Nat) (so2 : Option Addr) (cap2 : Nat) : Prop where
  ext : Ext w W
  fa : RBox W a k n f s so m cap
  fx : RBox W b k1 n1 f1 ⟨#[]⟩ none 0 0
  fy : RBox W c k2 n2 f2 ⟨#[]⟩ so2 0 cap2
  ne : a ≠ b ∧ a ≠ c ∧ b ≠ c
  lb : w.heap.size ≤ b ∧ w.heap.size ≤ c

section
variable {w W W' : World} {a b c : Nat} {k n : Int} {f : Nat} {s : ByteArray} {so : Option Addr} {m cap : Nat} {k1 n1 : Int} {f1 : Nat} {k2 n2 : Int} {f2 : Nat} {so2 : Option Addr} {cap2 : Nat}

theorem Tri.next (h : Tri w W a b c k n f s so m cap k1 n1 f1 k2 n2 f2 so2 cap2) (hE : Ext W W') : Tri w W' a b c k n f s so m cap k1 n1 f1 k2 n2 f2 so2 cap2 :=
  ⟨h.ext.trans hE, h.fa.ext hE, h.fx.ext hE, h.fy.ext hE, h.ne, h.lb⟩

theorem RBox.keepS {B q : Nat} {k n : Int} {f : Nat} {s : ByteArray} {so : Option Addr} {m cap : Nat} (h : RBox W B k n f s so m cap) (hne : B ≠ q) (k' n' : Int) (f' : Nat) (s' : ByteArray) (so' : Option Addr) (m' cap' : Nat) : RBox (set5 W q k' n' f' s' so' m' cap') B k n f s so m cap := by
  unfold RBox at h ⊢
  exact (set5_mod (F := fun x => x = q) (Mod.refl _ W) (.inl rfl) k' n' f' s' so' m' cap').keep h hne

theorem Tri.setX (h : Tri w W a b c k n f s so m cap k1 n1 f1 k2 n2 f2 so2 cap2) (k' n' : Int) (f' : Nat) : Tri w (set5 W b k' n' f' ⟨#[]⟩ none 0 0) a b c k n f s so m cap k' n' f' k2 n2 f2 so2 cap2 :=
  ⟨ext_set5 h.ext h.lb.1 k' n' f' ⟨#[]⟩ none 0 0, h.fa.keepS h.ne.1 k' n' f' ⟨#[]⟩ none 0 0, h.fx.fill k' n' f' ⟨#[]⟩ none 0 0, h.fy.keepS (Ne.symm h.ne.2.2) k' n' f' ⟨#[]⟩ none 0 0, h.ne, h.lb⟩

theorem Tri.setY (h : Tri w W a b c k n f s so m cap k1 n1 f1 k2 n2 f2 so2 cap2) (k' n' : Int) (f' : Nat) (so' : Option Addr) (cap' : Nat) : Tri w (set5 W c k' n' f' ⟨#[]⟩ so' 0 cap') a b c k n f s so m cap k1 n1 f1 k' n' f' so' cap' :=
  ⟨ext_set5 h.ext h.lb.2 k' n' f' ⟨#[]⟩ so' 0 cap', h.fa.keepS h.ne.2.1 k' n' f' ⟨#[]⟩ so' 0 cap', h.fx.keepS h.ne.2.2 k' n' f' ⟨#[]⟩ so' 0 cap', h.fy.fill k' n' f' ⟨#[]⟩ so' 0 cap', h.ne, h.lb⟩
end

theorem same_any_so (k n : Int) (f : Nat) (so : Option Addr) (cap : Nat) (w : World) : Calls Tryd.prog 20 #[.agg #[.int .i64 k, .int .i64 n, .float .f64 f, .string ⟨#[]⟩, .slice none 0 0], .agg #[.int .i64 k, .int .i64 n, .float .f64 f, .string ⟨#[]⟩, .slice so 0 cap]] w fun e w' => e = .returned (.bool true) ∧ Ext w w' := by
  have h := same_any k n f ⟨#[]⟩ none 0 0 k n f ⟨#[]⟩ so 0 cap w
  have e : sameB k n f ⟨#[]⟩ 0 k n f ⟨#[]⟩ 0 = true := by simp [sameB]
  rw [e] at h
  exact h

set_option maxRecDepth 100000 in
set_option maxHeartbeats 20000000 in
theorem numOnes_any (k n : Int) (f : Nat) (s : ByteArray) (so : Option Addr) (m cap : Nat) (how : ByteArray) (hf : f < 18446744073709551616) (_ : -9223372036854775808 ≤ k ∧ k ≤ 9223372036854775807) (hn64 : -9223372036854775808 ≤ n ∧ n ≤ 9223372036854775807) (w : World) (ht : Tab4 w) :
    Calls Tryd.prog 14 #[.agg #[.int .i64 k, .int .i64 n, .float .f64 f, .string s, .slice so m cap], .string how] w fun e w' => e = .returned (.bool true) ∧ Ext w w' := by
  have hE := (Ext.refl w).alloc (.cells #[.int .i64 k, .int .i64 n, .float .f64 f, .string s, .slice so m cap] 27)
  have hB := RBox.new w k n f s so m cap
  obtain ⟨w1, hw⟩ : ∃ w1, w.alloc (.cells #[.int .i64 k, .int .i64 n, .float .f64 f, .string s, .slice so m cap] 27) = w1 := ⟨_, rfl⟩
  rw [hw] at hE hB
  have HW := Lib.hid hw
  have HE := Lib.hid hE
  have HK := Lib.hid (known_any w1 (ht.ext hE))
  obtain ⟨na, nb, nc, nd, hnv⟩ := negV_form k n f (numV k n f s m)
  obtain ⟨aa, ab, ac, ad, hav⟩ := absV_form k n f (numV k n f s m)
  obtain ⟨ra, rb, rc, rd, hrv⟩ := reV_form k n f (numV k n f s m)
  obtain ⟨V, ⟨ha, hb, hc, hd, rfl⟩, hpw, hrw⟩ := wholes_same how k n f s so m cap hf
  have p1 := fun w => pneg_any k n f s so m cap hf w
  have p2 := fun w => pabs_any k n f s so m cap hf w
  have p3 := fun w => preal1_any k n f s so m cap hf w
  have q1 := fun w => rneg_any k n f s so m cap hf w
  have q2 := fun w => rabs_any k n f s so m cap hf w
  have q3 := fun w => rreal1_any k n f s so m cap hf hn64 w
  rw [hnv] at p1 q1
  rw [hav] at p2 q2
  rw [hrv] at p3 q3
  have q1 := any_of ⟨_, _, _, _, rfl⟩ q1
  have q3 := any_of ⟨_, _, _, _, rfl⟩ q3
  unfold nV at p1 p2 p3 hpw
  have HP1 := Lib.hid p1
  have HP2 := Lib.hid p2
  have HP3 := Lib.hid p3
  have HP4 := Lib.hid hpw
  have HQ1 := Lib.hid q1
  have HQ2 := Lib.hid q2
  have HQ3 := Lib.hid q3
  have HQ4 := Lib.hid hrw
  have HSS := Lib.hid (fun k n f so cap w => same_any_so k n f so cap w)
  have HB := Lib.hid hB
  clear hw hE hB ht hf hn64 hnv hav hrv p1 p2 p3 q1 q2 q3 hpw hrw
  go_enter Tryd.func14, Tryd.ntmps14
  go_upto_region 1 with (fail)
  rw [HW.out]
  have HLT := Lib.hid (show w.heap.size < w1.heap.size from HB.out.lt)
  have HBA := Lib.hid (show w.heap.size ≤ w.heap.size from Nat.le_refl _)
  go_upto_region 3 with (first
    | (go_at_call 17; (with_reducible refine HK.out.mono ?_); rintro e w2 ⟨rfl, hE2⟩; have HE := Lib.hid (HE.out.trans hE2); have HB := Lib.hid (HB.out.ext hE2); (obtain ⟨c0, c1, c2, c3, c4⟩ := HB.out.cells); clear hE2)
    | fail)
  go_upto_region 4 with (first
    | (go_at_call 35; (with_reducible refine (HP1.out _).mono ?_); rintro e w3 ⟨rfl, hE3⟩; have HE3 := Lib.hid hE3; clear hE3)
    | fail)
  obtain ⟨w4, bX, hw4, hbX, hs4, hx4, hR4⟩ := kbox HE3.out na nb nc
  rw [hw4, hbX]
  have HNE1 := Lib.hid (show w.heap.size ≠ bX ∧ w.heap.size ≤ bX from by have h1 := HB.out.lt; have h2 := HE3.out.size; omega)
  have HE := Lib.hid (HE.out.trans hx4)
  have HB := Lib.hid (HB.out.ext hx4)
  have HXB := Lib.hid hR4
  clear hw4 hbX hs4 hx4 hR4 HE3 c0 c1 c2 c3 c4
  obtain ⟨c0, c1, c2, c3, c4⟩ := HB.out.cells
  go_upto_region 5 with (first
    | (go_at_call 50
       (with_reducible refine (HQ1.out _).mono ?_)
       rintro e w5 ⟨ky, ny, fy, so1, cap1, ey, rfl, hv, hE5⟩
       obtain ⟨rfl, rfl, rfl, rfl⟩ := nV_eq hv
       unfold nVs
       have HE5 := Lib.hid hE5
       clear hE5 hv)
    | fail)
  have hR6 : RBox (w5.alloc (.cells #[.int .i64 na, .int .i64 nb, .float .f64 nc, .string ⟨#[]⟩, .slice so1 0 cap1] 27)) w5.heap.size na nb nc ⟨#[]⟩ so1 0 cap1 := RBox.new w5 na nb nc ⟨#[]⟩ so1 0 cap1
  have hx6 := HE5.out.alloc (.cells #[.int .i64 na, .int .i64 nb, .float .f64 nc, .string ⟨#[]⟩, .slice so1 0 cap1] 27)
  have H := Lib.hid (show Tri w (w5.alloc (.cells #[.int .i64 na, .int .i64 nb, .float .f64 nc, .string ⟨#[]⟩, .slice so1 0 cap1] 27)) w.heap.size bX w5.heap.size k n f s so m cap na nb nc na nb nc so1 cap1 from
    ⟨HE.out.trans hx6, HB.out.ext hx6, HXB.out.ext hx6, hR6, ⟨HNE1.out.1, by have h1 := HB.out.lt; have h2 := HE5.out.size; omega, by have h1 := HXB.out.lt; have h2 := HE5.out.size; omega⟩, ⟨HNE1.out.2, by have h1 := HB.out.lt; have h2 := HE5.out.size; omega⟩⟩)
  generalize w5.alloc (.cells #[.int .i64 na, .int .i64 nb, .float .f64 nc, .string ⟨#[]⟩, .slice so1 0 cap1] 27) = w6 at H ⊢
  generalize w5.heap.size = bY at H ⊢
  generalize w.heap.size = bA at H ⊢
  clear hR6 hx6 HE5 HXB HB HE HNE1 HLT HBA HW c0 c1 c2 c3 c4
  go_cut [29] from 21 to 28 (fun xx wx => xx = .bool false ∧ Hid (Ext w6 wx))
  case first =>
    obtain ⟨x0, x1, x2, x3, x4⟩ := H.out.fx.cells
    obtain ⟨y0, y1, y2, y3, y4⟩ := H.out.fy.cells
    have hne : (nd != nd) = false := by simp
    go_wp2_with (first
      | (go_at_call 20; (with_reducible refine (HSS.out _ _ _ _ _ _).mono ?_); rintro e u1 ⟨rfl, hF1⟩; have HU1 := Lib.hid hF1; clear hF1)
      | fail)
    go_meet
    exact ⟨rfl, HU1⟩
  case rest =>
    obtain ⟨rfl, HWCQ1⟩ := hcut
    rename World => wQ1
    have H := Lib.hid (H.out.next HWCQ1.out)
    obtain ⟨c0, c1, c2, c3, c4⟩ := H.out.fa.cells
    go_upto_region 8 with (first
      | (go_at_call 49; (with_reducible refine (HP2.out _).mono ?_); rintro e uP2 ⟨rfl, hEP2⟩
         have H := Lib.hid (H.out.next hEP2)
         clear hEP2
         have g0 := H.out.fx.free 0
         have g1 := H.out.fx.free 1
         have g2 := H.out.fx.free 2
         have g3 := H.out.fx.free 3
         have g4 := H.out.fx.free 4
         obtain ⟨a0, a1, a2, a3, a4⟩ := H.out.fx.cells)
      | fail)
    clear g0 g1 g2 g3 g4 a0 a1 a2 a3 a4 c0 c1 c2 c3 c4
    have H := Lib.hid (H.out.setX aa ab ac)
    unfold set5 at H
    generalize ((((uP2.setCell ⟨bX, 0, none⟩ (.int .i64 aa)).setCell ⟨bX, 1, none⟩ (.int .i64 ab)).setCell ⟨bX, 2, none⟩ (.float .f64 ac)).setCell ⟨bX, 3, none⟩ (.string ⟨#[]⟩)).setCell ⟨bX, 4, none⟩ (.slice none 0 0) = vP2 at H ⊢
    obtain ⟨c0, c1, c2, c3, c4⟩ := H.out.fa.cells
    go_upto_region 9 with (first
      | (go_at_call 51
         (with_reducible refine (HQ2.out _).mono ?_)
         rintro e xP2 ⟨ky, ny, fy, soP2, capP2, ey, rfl, hv, hEP2⟩
         obtain ⟨rfl, rfl, rfl, rfl⟩ := nV_eq hv
         unfold nVs
         have H := Lib.hid (H.out.next hEP2)
         clear hEP2 hv
         have g0 := H.out.fy.free 0
         have g1 := H.out.fy.free 1
         have g2 := H.out.fy.free 2
         have g3 := H.out.fy.free 3
         have g4 := H.out.fy.free 4
         obtain ⟨a0, a1, a2, a3, a4⟩ := H.out.fy.cells)
      | fail)
    clear g0 g1 g2 g3 g4 a0 a1 a2 a3 a4 c0 c1 c2 c3 c4
    have H := Lib.hid (H.out.setY aa ab ac soP2 capP2)
    unfold set5 at H
    generalize ((((xP2.setCell ⟨bY, 0, none⟩ (.int .i64 aa)).setCell ⟨bY, 1, none⟩ (.int .i64 ab)).setCell ⟨bY, 2, none⟩ (.float .f64 ac)).setCell ⟨bY, 3, none⟩ (.string ⟨#[]⟩)).setCell ⟨bY, 4, none⟩ (.slice soP2 0 capP2) = wP2 at H ⊢
    go_cut [48] from 40 to 47 (fun xx wx => xx = .bool false ∧ Hid (Ext wP2 wx))
    case first =>
      obtain ⟨x0, x1, x2, x3, x4⟩ := H.out.fx.cells
      obtain ⟨y0, y1, y2, y3, y4⟩ := H.out.fy.cells
      have hne : (ad != ad) = false := by simp
      go_wp2_with (first
        | (go_at_call 20; (with_reducible refine (HSS.out _ _ _ _ _ _).mono ?_); rintro e u1 ⟨rfl, hF1⟩; have HU1 := Lib.hid hF1; clear hF1)
        | fail)
      go_meet
      exact ⟨rfl, HU1⟩
    case rest =>
      obtain ⟨rfl, HWCQ2⟩ := hcut
      rename World => wQ2
      have H := Lib.hid (H.out.next HWCQ2.out)
      obtain ⟨c0, c1, c2, c3, c4⟩ := H.out.fa.cells
      go_upto_region 12 with (first
        | (go_at_call 34; (with_reducible refine (HP3.out _).mono ?_); rintro e uP3 ⟨rfl, hEP3⟩
           have H := Lib.hid (H.out.next hEP3)
           clear hEP3
           have g0 := H.out.fx.free 0
           have g1 := H.out.fx.free 1
           have g2 := H.out.fx.free 2
           have g3 := H.out.fx.free 3
           have g4 := H.out.fx.free 4
           obtain ⟨a0, a1, a2, a3, a4⟩ := H.out.fx.cells)
        | fail)
      clear g0 g1 g2 g3 g4 a0 a1 a2 a3 a4 c0 c1 c2 c3 c4
      have H := Lib.hid (H.out.setX ra rb rc)
      unfold set5 at H
      generalize ((((uP3.setCell ⟨bX, 0, none⟩ (.int .i64 ra)).setCell ⟨bX, 1, none⟩ (.int .i64 rb)).setCell ⟨bX, 2, none⟩ (.float .f64 rc)).setCell ⟨bX, 3, none⟩ (.string ⟨#[]⟩)).setCell ⟨bX, 4, none⟩ (.slice none 0 0) = vP3 at H ⊢
      obtain ⟨c0, c1, c2, c3, c4⟩ := H.out.fa.cells
      go_upto_region 13 with (first
        | (go_at_call 52
           (with_reducible refine (HQ3.out _).mono ?_)
           rintro e xP3 ⟨ky, ny, fy, soP3, capP3, ey, rfl, hv, hEP3⟩
           obtain ⟨rfl, rfl, rfl, rfl⟩ := nV_eq hv
           unfold nVs
           have H := Lib.hid (H.out.next hEP3)
           clear hEP3 hv
           have g0 := H.out.fy.free 0
           have g1 := H.out.fy.free 1
           have g2 := H.out.fy.free 2
           have g3 := H.out.fy.free 3
           have g4 := H.out.fy.free 4
           obtain ⟨a0, a1, a2, a3, a4⟩ := H.out.fy.cells)
        | fail)
      clear g0 g1 g2 g3 g4 a0 a1 a2 a3 a4 c0 c1 c2 c3 c4
      have H := Lib.hid (H.out.setY ra rb rc soP3 capP3)
      unfold set5 at H
      generalize ((((xP3.setCell ⟨bY, 0, none⟩ (.int .i64 ra)).setCell ⟨bY, 1, none⟩ (.int .i64 rb)).setCell ⟨bY, 2, none⟩ (.float .f64 rc)).setCell ⟨bY, 3, none⟩ (.string ⟨#[]⟩)).setCell ⟨bY, 4, none⟩ (.slice soP3 0 capP3) = wP3 at H ⊢
      go_cut [67] from 59 to 66 (fun xx wx => xx = .bool false ∧ Hid (Ext wP3 wx))
      case first =>
        obtain ⟨x0, x1, x2, x3, x4⟩ := H.out.fx.cells
        obtain ⟨y0, y1, y2, y3, y4⟩ := H.out.fy.cells
        have hne : (rd != rd) = false := by simp
        go_wp2_with (first
          | (go_at_call 20; (with_reducible refine (HSS.out _ _ _ _ _ _).mono ?_); rintro e u1 ⟨rfl, hF1⟩; have HU1 := Lib.hid hF1; clear hF1)
          | fail)
        go_meet
        exact ⟨rfl, HU1⟩
      case rest =>
        obtain ⟨rfl, HWCQ3⟩ := hcut
        rename World => wQ3
        have H := Lib.hid (H.out.next HWCQ3.out)
        obtain ⟨c0, c1, c2, c3, c4⟩ := H.out.fa.cells
        go_upto_region 16 with (first
          | (go_at_call 53; (with_reducible refine (HP4.out _).mono ?_); rintro e uP4 ⟨rfl, hEP4⟩
             have H := Lib.hid (H.out.next hEP4)
             clear hEP4
             have g0 := H.out.fx.free 0
             have g1 := H.out.fx.free 1
             have g2 := H.out.fx.free 2
             have g3 := H.out.fx.free 3
             have g4 := H.out.fx.free 4
             obtain ⟨a0, a1, a2, a3, a4⟩ := H.out.fx.cells)
          | fail)
        clear g0 g1 g2 g3 g4 a0 a1 a2 a3 a4 c0 c1 c2 c3 c4
        have H := Lib.hid (H.out.setX ha hb hc)
        unfold set5 at H
        generalize ((((uP4.setCell ⟨bX, 0, none⟩ (.int .i64 ha)).setCell ⟨bX, 1, none⟩ (.int .i64 hb)).setCell ⟨bX, 2, none⟩ (.float .f64 hc)).setCell ⟨bX, 3, none⟩ (.string ⟨#[]⟩)).setCell ⟨bX, 4, none⟩ (.slice none 0 0) = vP4 at H ⊢
        obtain ⟨c0, c1, c2, c3, c4⟩ := H.out.fa.cells
        go_upto_region 17 with (first
          | (go_at_call 54
             (with_reducible refine (HQ4.out _).mono ?_)
             rintro e xP4 ⟨ky, ny, fy, soP4, capP4, ey, rfl, hv, hEP4⟩
             obtain ⟨rfl, rfl, rfl, rfl⟩ := nV_eq hv
             unfold nVs
             have H := Lib.hid (H.out.next hEP4)
             clear hEP4 hv
             have g0 := H.out.fy.free 0
             have g1 := H.out.fy.free 1
             have g2 := H.out.fy.free 2
             have g3 := H.out.fy.free 3
             have g4 := H.out.fy.free 4
             obtain ⟨a0, a1, a2, a3, a4⟩ := H.out.fy.cells)
          | fail)
        clear g0 g1 g2 g3 g4 a0 a1 a2 a3 a4 c0 c1 c2 c3 c4
        have H := Lib.hid (H.out.setY ha hb hc soP4 capP4)
        unfold set5 at H
        generalize ((((xP4.setCell ⟨bY, 0, none⟩ (.int .i64 ha)).setCell ⟨bY, 1, none⟩ (.int .i64 hb)).setCell ⟨bY, 2, none⟩ (.float .f64 hc)).setCell ⟨bY, 3, none⟩ (.string ⟨#[]⟩)).setCell ⟨bY, 4, none⟩ (.slice soP4 0 capP4) = wP4 at H ⊢
        obtain ⟨x0, x1, x2, x3, x4⟩ := H.out.fx.cells
        obtain ⟨y0, y1, y2, y3, y4⟩ := H.out.fy.cells
        go_wp2_with (first
          | (go_at_call 20; (with_reducible refine (HSS.out _ _ _ _ _ _).mono ?_); rintro e u1 ⟨rfl, hF1⟩; have H := Lib.hid (H.out.next hF1); clear hF1)
          | fail)
        go_ret
        exact ⟨by simp, H.out.ext⟩

end Go.Proofs.YtlpifchimnnfdaaDoor
