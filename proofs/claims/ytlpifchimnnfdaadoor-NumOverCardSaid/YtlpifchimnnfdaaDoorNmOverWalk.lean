/- NumOver's walk: the four operators on two finite floats. -/
import Derived.Test.YtlpifchimnnfdaaDoorNmPair
import Derived.Test.YtlpifchimnnfdaaDoorNmOp
namespace Go.Proofs.YtlpifchimnnfdaaDoor
open Go.RowKit
attribute [local irreducible] Ext
attribute [local go_sem] run_store_float

/-- The four signs. -/
def sgOf (j : Nat) : ByteArray := match j with
  | 0 => ⟨#[43]⟩
  | 1 => ⟨#[45]⟩
  | 2 => ⟨#[42]⟩
  | _ => ⟨#[47]⟩

theorem numV_fl {f : Nat} (h : finF f = true) : numV 2 0 f ⟨#[]⟩ 0 = true := by
  unfold numV
  rw [if_neg (by decide), if_pos rfl, h]
  rfl

theorem op_fl (j : Nat) (x y : Nat) (hx : x < 18446744073709551616) (hy : y < 18446744073709551616) (fx : finF x = true) (fy : finF y = true) (w : World) :
    Calls Tryd.prog 25 #[.string (sgOf j), tV 2 0 x, tV 2 0 y] w fun e w' => e = .returned (flV (sgOf j) x y) ∧ Ext w w' := by
  have hs : sgnB (sgOf j) = true := by
    unfold sgOf
    split <;> kernel_rfl
  have h := pop_good (sgOf j) hs 2 0 x ⟨#[]⟩ none 0 0 2 0 y ⟨#[]⟩ none 0 0 hx hy w
  rw [numV_fl fx, numV_fl fy] at h
  have e : opV (sgOf j) 2 0 x true 2 0 y true = flV (sgOf j) x y := by
    unfold sgOf
    split <;> kernel_rfl
  rw [e] at h
  exact h

theorem nV_inj {k n : Int} {f : Nat} {e : Int} {k' n' : Int} {f' : Nat} {e' : Int} (h : nV k n f e = nV k' n' f' e') : k = k' ∧ n = n' ∧ f = f' ∧ e = e' := by
  simpa [nV, and_assoc] using h

/-- A finite float less itself. -/
theorem run_sub_fin {b : Nat} (h : finF b = true) (t : TypeId) (w : World) : (binOp .sub t (.float .f64 b) (.float .f64 b)).run Tryd.prog w = .ok (.float .f64 0) w := by
  rcases finF_cases b with ⟨_, neg, m, p, hr⟩ | ⟨hf, _⟩
  · exact run_float_arith w .sub t .f64 b b 0 (sub_self_number hr)
  · rw [h] at hf; cases hf

theorem nan_any (w : World) : Calls Tryd.prog 31 #[] w fun e w' => e = .returned (.float .f64 9221120237041090561) ∧ w = w' := by
  have h : ∀ w, (callFunc 21 #[.int .u64 9221120237041090561]).run Tryd.prog w = .ok (.value (.float .f64 9221120237041090561)) w := run_frombits 9221120237041090561
  go_enter Tryd.func31, Tryd.ntmps31
  go_wp2_with fail
  go_ret
  exact ⟨rfl, rfl⟩

/-- What the law reckons itself. -/
def WPost (w : World) (W : Value) (u : Value) (w' : World) : Prop := ∃ r, u = .float .f64 r ∧ r < 18446744073709551616 ∧ mkF r = W ∧ Ext w w'

theorem wpost_op {w : World} {j x y : Nat} (op : BinOp) (hop : op = .add ∨ op = .sub ∨ op = .mul ∨ op = .quo) (he : flOp (sgOf j) = op) (hz : op = .quo → zeroF y = false) :
    ∃ r w', (binOp op 24 (.float .f64 x) (.float .f64 y)).run Tryd.prog w = .ok (.float .f64 r) w' ∧ WPost w (flV (sgOf j) x y) (.float .f64 r) w' := by
  obtain ⟨r, w', h1, h2, h3, h4, _, _⟩ := run_farith Tryd.prog op hop 24 x y w
  refine ⟨r, w', h1, r, rfl, h3, ?_, h4⟩
  rw [h2]
  unfold flV
  rw [he, if_neg (by rintro ⟨h, h'⟩; rw [hz h] at h'; cases h')]

theorem wpost_nan {w : World} {x y : Nat} (hz : zeroF y = true) : WPost w (flV (sgOf 3) x y) (.float .f64 9221120237041090561) w := by
  refine ⟨_, rfl, by decide, ?_, Ext.refl w⟩
  unfold flV
  rw [if_pos ⟨by kernel_rfl, hz⟩]
  exact mkF_nan (by decide)

/-- A result's cells that were made since are written. -/
theorem slot_end {wr W : World} {B : Nat} (hE : Ext wr W) (hB : wr.heap.size ≤ B) (hz : RBox W B 0 0 0 ⟨#[]⟩ none 0 0) (k n : Int) (f : Nat) :
    ZFacts W B k n f ∧ Ext wr (set5 W B k n f ⟨#[]⟩ none 0 0) ∧ RBox (set5 W B k n f ⟨#[]⟩ none 0 0) B k n f ⟨#[]⟩ none 0 0 :=
  ⟨zfacts hz k n f, ext_set5 hE hB k n f ⟨#[]⟩ none 0 0, hz.fill k n f ⟨#[]⟩ none 0 0⟩

/-- Cells that were made ahead of a call. -/
theorem slot_made {w w' : World} (hE : Ext (w.alloc (.cells #[.int .i64 0, .int .i64 0, .float .f64 0, .string ⟨#[]⟩, .slice none 0 0] 27)) w') : RBox w' w.heap.size 0 0 0 ⟨#[]⟩ none 0 0 :=
  (RBox.new w 0 0 0 ⟨#[]⟩ none 0 0).ext hE

/-- They are made behind the call, or ahead of it. -/
theorem slot_behind {wr w : World} (hE : Ext wr w) (k n : Int) (f : Nat) :
    ZFacts (w.alloc (.cells #[.int .i64 0, .int .i64 0, .float .f64 0, .string ⟨#[]⟩, .slice none 0 0] 27)) w.heap.size k n f ∧ Ext wr (set5 (w.alloc (.cells #[.int .i64 0, .int .i64 0, .float .f64 0, .string ⟨#[]⟩, .slice none 0 0] 27)) w.heap.size k n f ⟨#[]⟩ none 0 0) ∧ RBox (set5 (w.alloc (.cells #[.int .i64 0, .int .i64 0, .float .f64 0, .string ⟨#[]⟩, .slice none 0 0] 27)) w.heap.size k n f ⟨#[]⟩ none 0 0) w.heap.size k n f ⟨#[]⟩ none 0 0 :=
  slot_end (hE.alloc _) hE.size (RBox.new w 0 0 0 ⟨#[]⟩ none 0 0) k n f

theorem slot_ahead {wr w w' : World} (hE : Ext wr w) (hE' : Ext (w.alloc (.cells #[.int .i64 0, .int .i64 0, .float .f64 0, .string ⟨#[]⟩, .slice none 0 0] 27)) w') (k n : Int) (f : Nat) :
    ZFacts w' w.heap.size k n f ∧ Ext wr (set5 w' w.heap.size k n f ⟨#[]⟩ none 0 0) ∧ RBox (set5 w' w.heap.size k n f ⟨#[]⟩ none 0 0) w.heap.size k n f ⟨#[]⟩ none 0 0 :=
  slot_end ((hE.alloc _).trans hE') hE.size ((RBox.new w 0 0 0 ⟨#[]⟩ none 0 0).ext hE') k n f

/-- Where the loop stands. -/
structure OvAt (w0 w : World) (bS : Nat) : Prop where
  ext : Ext w0 w
  c0 : w.cell? ⟨bS, 0, none⟩ = some (.string ⟨#[43]⟩)
  c1 : w.cell? ⟨bS, 1, none⟩ = some (.string ⟨#[45]⟩)
  c2 : w.cell? ⟨bS, 2, none⟩ = some (.string ⟨#[42]⟩)
  c3 : w.cell? ⟨bS, 3, none⟩ = some (.string ⟨#[47]⟩)

theorem OvAt.next {w0 w w' : World} {bS : Nat} (h : OvAt w0 w bS) (hE : Ext w w') : OvAt w0 w' bS :=
  ⟨h.ext.trans hE, hE.cell h.c0, hE.cell h.c1, hE.cell h.c2, hE.cell h.c3⟩

/-- What the call of Op leaves. -/
def OpLeft (w0 : World) (bS : Nat) (rk rn : Int) (rf : Nat) (re : Int) (x y : Value) (wx : World) : Prop :=
  ∃ B, x = .pointer (some ⟨B, 0, none⟩) ∧ y = .int .i64 re ∧ OvAt w0 wx bS ∧ RBox wx B rk rn rf ⟨#[]⟩ none 0 0

theorem OvAt.cell {w0 w : World} {bS j : Nat} (h : OvAt w0 w bS) (hj : j < 4) : w.cell? ⟨bS, j, none⟩ = some (.string (sgOf j)) := by
  match j, hj with
  | 0, _ => exact h.c0
  | 1, _ => exact h.c1
  | 2, _ => exact h.c2
  | 3, _ => exact h.c3

theorem ovat_new {w0 w : World} (h : Ext w0 w) : OvAt w0 (w.alloc (.cells #[.string ⟨#[43]⟩, .string ⟨#[45]⟩, .string ⟨#[42]⟩, .string ⟨#[47]⟩] 9)) w.heap.size := by
  have hn := heap_alloc_new w (.cells #[.string ⟨#[43]⟩, .string ⟨#[45]⟩, .string ⟨#[42]⟩, .string ⟨#[47]⟩] 9)
  exact ⟨h.alloc _, by rw [cell_of_heap hn]; rfl, by rw [cell_of_heap hn]; rfl, by rw [cell_of_heap hn]; rfl, by rw [cell_of_heap hn]; rfl⟩

set_option maxRecDepth 100000 in
set_option maxHeartbeats 8000000 in
theorem numOver_any (u v : Nat) (hu : u < 18446744073709551616) (hv : v < 18446744073709551616) (w : World) (ht : Tab4 w) :
    Calls Tryd.prog 7 #[.int .u64 u, .int .u64 v] w fun e w' => e = .returned (.bool true) ∧ Ext w w' := by
  have HK := Lib.hid (known_any w ht)
  have HU := Lib.hid hu
  have HV := Lib.hid hv
  have hfu := run_frombits u
  have hfv := run_frombits v
  have z0 : (FloatKind.f64.format.order 0 0 != some .eq) = false := by decide
  clear hu hv ht
  go_enter Tryd.func7, Tryd.ntmps7
  go_upto_region 5 with (first
    | (go_at_call 17; (with_reducible refine HK.out.mono ?_); rintro e w1 ⟨rfl, hE1⟩; have HE := Lib.hid hE1; clear hE1)
    | fail)
  by_cases fu : finF u = true
  · by_cases fv : finF v = true
    · have hsu := run_sub_fin fu 24
      have hsv := run_sub_fin fv 24
      go_upto_region 8 with (fail)
      have hO := ovat_new HE.out
      generalize w1.alloc (.cells #[.string ⟨#[43]⟩, .string ⟨#[45]⟩, .string ⟨#[42]⟩, .string ⟨#[47]⟩] 9) = w2 at hO ⊢
      generalize w1.heap.size = bS at hO ⊢
      have HO := Lib.hid hO
      have HFU := Lib.hid fu
      have HFV := Lib.hid fv
      have HFC := Lib.hid (fun x w => f_any x w)
      have HS := Lib.hid (fun w' => same_self 0 0 0 w')
      unfold tV at HS HFC
      clear hO fu fv hsu hsv HE HK
      go_wp2_with fail
      go_loopg [8] 4 (fun g i wr => ∃ j : Nat, j + g = 4 ∧ i = .int .i64 j ∧ Hid (OvAt w wr bS))
      case atStart => exact ⟨0, by omega, rfl, HO⟩
      case round =>
        obtain ⟨j, hj, rfl, HO⟩ := hrel
        by_cases hlt : j < 4
        · have c1 : decide ((j : Int) < 4) = true := decide_eq_true (by omega)
          have c1' : decide (j < 4) = true := decide_eq_true hlt
          obtain ⟨sg, hsg⟩ : ∃ sg, sgOf j = sg := ⟨_, rfl⟩
          have hc := HO.out.cell hlt
          obtain ⟨rk, rn, rf, re, hmk⟩ := flV_form sg u v
          have hop := fun w => op_fl j u v HU.out HV.out HFU.out HFV.out w
          rw [hsg] at hc
          rw [hsg, hmk] at hop
          unfold tV nV at hop
          have HOP := Lib.hid hop
          have HMK := Lib.hid (hsg ▸ hmk)
          have hce := fun w' (h : Ext wr w') => (HO.out.next h).cell hlt
          rw [hsg] at hce
          have HCE := Lib.hid hce
          have hj0 : (0 : Int) ≤ (j : Int) := by omega
          have hj1 : (j : Int) < 4 := by omega
          clear hop hmk hsg hce
          go_upto_region 11 with (fail)
          go_cut [9, 10] from 33 to 44 (fun x y wx => OpLeft w bS rk rn rf re x y wx)
          case first =>
            have hE0 := Ext.refl wr
            have hce := HCE.out
            clear hc
            go_region_held3 (fun w' => Ext wr w') (repeat (first | assumption | apply Ext.drew | apply Ext.alloc))
              (first
                | (go_at_call 28
                   (with_reducible refine (HFC.out u _).mono ?_)
                   rintro e w8 ⟨rfl, hE8⟩
                   first
                     | have hW8 : Ext wr w8 := (Ext.refl wr).drew.trans hE8
                     | have hW8 : Ext wr w8 := ((Ext.refl wr).alloc _).drew.trans hE8
                   try have HZ8 := Lib.hid (slot_made ((Ext.refl _).drew.trans hE8)))
                | (go_at_call 28
                   (with_reducible refine (HFC.out v _).mono ?_)
                   rintro e w9 ⟨rfl, hE9⟩
                   first
                     | have hW9 : Ext wr w9 := hW8.trans hE9
                     | have hW9 : Ext wr w9 := (hW8.alloc _).trans hE9
                   first
                     | have HZ9 := Lib.hid (HZ8.out.ext hE9)
                     | have HZ9 := Lib.hid (slot_made hE9)
                     | skip)
                | (go_at_call 25
                   (with_reducible refine (HOP.out _).mono ?_)
                   rintro e w10 ⟨rfl, hE10⟩
                   first
                     | have hW10 : Ext wr w10 := hW9.trans hE10
                     | have hW10 : Ext wr w10 := (hW9.alloc _).trans hE10
                   first
                     | have HS10 := Lib.hid (slot_end hW10 (by have := hW8.size; have := hW9.size; omega) (HZ9.out.ext hE10) rk rn rf)
                     | have HS10 := Lib.hid (slot_end hW10 (by have := hW8.size; have := hW9.size; omega) (slot_made hE10) rk rn rf)
                     | have HS10 := Lib.hid (slot_behind hW10 rk rn rf)
                   obtain ⟨⟨g0, g1, g2, g3, g4⟩, ⟨a0, a1, a2, a3, a4⟩, _⟩ := HS10.out.1
                   have hWs := HS10.out.2.1
                   have HEND := Lib.hid (And.intro (HO.out.next HS10.out.2.1) HS10.out.2.2)
                   unfold set5 at hWs HEND)
                | fail)
            all_goals go_wp2
            all_goals go_meet
            all_goals first
              | exact ⟨_, rfl, rfl, HEND.out⟩
              | exact ⟨_, rfl, rfl, HO.out.next (hW10.alloc _), RBox.new _ _ _ _ _ _ _ _⟩
          case rest =>
            obtain ⟨B, rfl, rfl, hO, hB⟩ := hcut
            obtain ⟨b0, b1, b2, b3, b4⟩ := hB.cells
            have HO := Lib.hid hO
            have HB := Lib.hid hB
            clear hO hB HOP HCE hj0 hj1
            obtain rfl | rfl | rfl | rfl : j = 0 ∨ j = 1 ∨ j = 2 ∨ j = 3 := by omega
            · obtain ⟨r, w4, hrun, hW⟩ := wpost_op (w := wc) (j := 0) (x := u) (y := v) .add (.inl rfl) (by kernel_rfl) (fun h => by cases h)
              obtain ⟨r', er, hr64, hmr, hEw⟩ := hW
              injection er with _ er
              subst er
              have hv := hmr.trans HMK.out
              have HO := Lib.hid (HO.out.next hEw)
              have HB := Lib.hid (HB.out.ext hEw)
              clear b0 b1 b2 b3 b4 hEw hr64
              by_cases fr : finF r = true
              · unfold mkF at hv
                rw [if_pos fr] at hv
                obtain ⟨e1, e2, e3, e4⟩ := nV_inj hv
                subst e1 e2 e3 e4
                obtain ⟨b0, b1, b2, b3, b4⟩ := HB.out.cells
                have hs := run_sub_fin fr 24
                have hb := run_bits r
                clear hv fr hmr
                go_wp2_with (first
                  | (go_at_call 31; (with_reducible refine (nan_any _).mono ?_); rintro e wn ⟨rfl, rfl⟩)
                  | fail)
                go_roundg (4 - 0 - 1)
                case measure => omega
                case rel => exact ⟨0 + 1, by omega, rfl, HO⟩
              · have fr' : finF r = false := by simpa using fr
                unfold mkF at hv
                rw [if_neg fr] at hv
                obtain ⟨e1, e2, e3, e4⟩ := nV_inj hv
                subst e1 e2 e3 e4
                obtain ⟨q, w5, hrun2, hord, hE5⟩ := run_sub_self Tryd.prog 24 r w4
                rw [fr'] at hord
                have hord' : (FloatKind.f64.format.order q 0 != some .eq) = true := by simpa [bne] using hord
                obtain ⟨b0, b1, b2, b3, b4⟩ := (HB.out.ext hE5).cells
                have HO := Lib.hid (HO.out.next hE5)
                clear hv fr fr' hmr hE5 hord
                go_wp2_with (first
                  | (go_at_call 31; (with_reducible refine (nan_any _).mono ?_); rintro e wn ⟨rfl, rfl⟩)
                  | (go_at_call 20; (with_reducible refine (HS.out _).mono ?_); rintro e w6 ⟨rfl, hE6⟩; have HO := Lib.hid (HO.out.next hE6); clear hE6)
                  | fail)
                go_roundg (4 - 0 - 1)
                case measure => omega
                case rel => exact ⟨0 + 1, by omega, rfl, HO⟩
            · obtain ⟨r, w4, hrun, hW⟩ := wpost_op (w := wc) (j := 1) (x := u) (y := v) .sub (.inr (.inl rfl)) (by kernel_rfl) (fun h => by cases h)
              obtain ⟨r', er, hr64, hmr, hEw⟩ := hW
              injection er with _ er
              subst er
              have hv := hmr.trans HMK.out
              have HO := Lib.hid (HO.out.next hEw)
              have HB := Lib.hid (HB.out.ext hEw)
              clear b0 b1 b2 b3 b4 hEw hr64
              by_cases fr : finF r = true
              · unfold mkF at hv
                rw [if_pos fr] at hv
                obtain ⟨e1, e2, e3, e4⟩ := nV_inj hv
                subst e1 e2 e3 e4
                obtain ⟨b0, b1, b2, b3, b4⟩ := HB.out.cells
                have hs := run_sub_fin fr 24
                have hb := run_bits r
                clear hv fr hmr
                go_wp2_with (first
                  | (go_at_call 31; (with_reducible refine (nan_any _).mono ?_); rintro e wn ⟨rfl, rfl⟩)
                  | fail)
                go_roundg (4 - 1 - 1)
                case measure => omega
                case rel => exact ⟨1 + 1, by omega, rfl, HO⟩
              · have fr' : finF r = false := by simpa using fr
                unfold mkF at hv
                rw [if_neg fr] at hv
                obtain ⟨e1, e2, e3, e4⟩ := nV_inj hv
                subst e1 e2 e3 e4
                obtain ⟨q, w5, hrun2, hord, hE5⟩ := run_sub_self Tryd.prog 24 r w4
                rw [fr'] at hord
                have hord' : (FloatKind.f64.format.order q 0 != some .eq) = true := by simpa [bne] using hord
                obtain ⟨b0, b1, b2, b3, b4⟩ := (HB.out.ext hE5).cells
                have HO := Lib.hid (HO.out.next hE5)
                clear hv fr fr' hmr hE5 hord
                go_wp2_with (first
                  | (go_at_call 31; (with_reducible refine (nan_any _).mono ?_); rintro e wn ⟨rfl, rfl⟩)
                  | (go_at_call 20; (with_reducible refine (HS.out _).mono ?_); rintro e w6 ⟨rfl, hE6⟩; have HO := Lib.hid (HO.out.next hE6); clear hE6)
                  | fail)
                go_roundg (4 - 1 - 1)
                case measure => omega
                case rel => exact ⟨1 + 1, by omega, rfl, HO⟩
            · obtain ⟨r, w4, hrun, hW⟩ := wpost_op (w := wc) (j := 2) (x := u) (y := v) .mul (.inr (.inr (.inl rfl))) (by kernel_rfl) (fun h => by cases h)
              obtain ⟨r', er, hr64, hmr, hEw⟩ := hW
              injection er with _ er
              subst er
              have hv := hmr.trans HMK.out
              have HO := Lib.hid (HO.out.next hEw)
              have HB := Lib.hid (HB.out.ext hEw)
              clear b0 b1 b2 b3 b4 hEw hr64
              by_cases fr : finF r = true
              · unfold mkF at hv
                rw [if_pos fr] at hv
                obtain ⟨e1, e2, e3, e4⟩ := nV_inj hv
                subst e1 e2 e3 e4
                obtain ⟨b0, b1, b2, b3, b4⟩ := HB.out.cells
                have hs := run_sub_fin fr 24
                have hb := run_bits r
                clear hv fr hmr
                go_wp2_with (first
                  | (go_at_call 31; (with_reducible refine (nan_any _).mono ?_); rintro e wn ⟨rfl, rfl⟩)
                  | fail)
                go_roundg (4 - 2 - 1)
                case measure => omega
                case rel => exact ⟨2 + 1, by omega, rfl, HO⟩
              · have fr' : finF r = false := by simpa using fr
                unfold mkF at hv
                rw [if_neg fr] at hv
                obtain ⟨e1, e2, e3, e4⟩ := nV_inj hv
                subst e1 e2 e3 e4
                obtain ⟨q, w5, hrun2, hord, hE5⟩ := run_sub_self Tryd.prog 24 r w4
                rw [fr'] at hord
                have hord' : (FloatKind.f64.format.order q 0 != some .eq) = true := by simpa [bne] using hord
                obtain ⟨b0, b1, b2, b3, b4⟩ := (HB.out.ext hE5).cells
                have HO := Lib.hid (HO.out.next hE5)
                clear hv fr fr' hmr hE5 hord
                go_wp2_with (first
                  | (go_at_call 31; (with_reducible refine (nan_any _).mono ?_); rintro e wn ⟨rfl, rfl⟩)
                  | (go_at_call 20; (with_reducible refine (HS.out _).mono ?_); rintro e w6 ⟨rfl, hE6⟩; have HO := Lib.hid (HO.out.next hE6); clear hE6)
                  | fail)
                go_roundg (4 - 2 - 1)
                case measure => omega
                case rel => exact ⟨2 + 1, by omega, rfl, HO⟩
            · have e3 : IntKind.i64.wrap ((3 : Int) + 1) = 4 := by decide
              cases hz : zeroF v
              · obtain ⟨r, w4, hrun, hW⟩ := wpost_op (w := wc) (j := 3) (x := u) (y := v) .quo (.inr (.inr (.inr rfl))) (by kernel_rfl) (fun _ => hz)
                unfold zeroF at hz
                obtain ⟨r', er, hr64, hmr, hEw⟩ := hW
                injection er with _ er
                subst er
                have hv := hmr.trans HMK.out
                have HO := Lib.hid (HO.out.next hEw)
                have HB := Lib.hid (HB.out.ext hEw)
                clear b0 b1 b2 b3 b4 hEw hr64
                by_cases fr : finF r = true
                · unfold mkF at hv
                  rw [if_pos fr] at hv
                  obtain ⟨e1, e2, e3, e4⟩ := nV_inj hv
                  subst e1 e2 e3 e4
                  obtain ⟨b0, b1, b2, b3, b4⟩ := HB.out.cells
                  have hs := run_sub_fin fr 24
                  have hb := run_bits r
                  clear hv fr hmr
                  go_wp2_with (first
                    | (go_at_call 31; (with_reducible refine (nan_any _).mono ?_); rintro e wn ⟨rfl, rfl⟩)
                    | fail)
                  go_roundg (4 - 3 - 1)
                  case measure => omega
                  case rel => exact ⟨3 + 1, by omega, rfl, HO⟩
                · have fr' : finF r = false := by simpa using fr
                  unfold mkF at hv
                  rw [if_neg fr] at hv
                  obtain ⟨e1, e2, e3, e4⟩ := nV_inj hv
                  subst e1 e2 e3 e4
                  obtain ⟨q, w5, hrun2, hord, hE5⟩ := run_sub_self Tryd.prog 24 r w4
                  rw [fr'] at hord
                  have hord' : (FloatKind.f64.format.order q 0 != some .eq) = true := by simpa [bne] using hord
                  obtain ⟨b0, b1, b2, b3, b4⟩ := (HB.out.ext hE5).cells
                  have HO := Lib.hid (HO.out.next hE5)
                  clear hv fr fr' hmr hE5 hord
                  go_wp2_with (first
                    | (go_at_call 31; (with_reducible refine (nan_any _).mono ?_); rintro e wn ⟨rfl, rfl⟩)
                    | (go_at_call 20; (with_reducible refine (HS.out _).mono ?_); rintro e w6 ⟨rfl, hE6⟩; have HO := Lib.hid (HO.out.next hE6); clear hE6)
                    | fail)
                  go_roundg (4 - 3 - 1)
                  case measure => omega
                  case rel => exact ⟨3 + 1, by omega, rfl, HO⟩
              · have hW := wpost_nan (w := wc) (x := u) hz
                unfold zeroF at hz
                obtain ⟨r, hr⟩ : ∃ r, 9221120237041090561 = r := ⟨_, rfl⟩
                rw [hr] at hW
                have hnan : ∀ w, Calls Tryd.prog 31 #[] w fun e w' => e = .returned (.float .f64 r) ∧ w = w' := by rw [← hr]; exact nan_any
                clear hr
                obtain ⟨r', er, hr64, hmr, hEw⟩ := hW
                injection er with _ er
                subst er
                have hv := hmr.trans HMK.out
                have HO := Lib.hid (HO.out.next hEw)
                have HB := Lib.hid (HB.out.ext hEw)
                clear b0 b1 b2 b3 b4 hEw hr64
                by_cases fr : finF r = true
                · unfold mkF at hv
                  rw [if_pos fr] at hv
                  obtain ⟨e1, e2, e3, e4⟩ := nV_inj hv
                  subst e1 e2 e3 e4
                  obtain ⟨b0, b1, b2, b3, b4⟩ := HB.out.cells
                  have hs := run_sub_fin fr 24
                  have hb := run_bits r
                  clear hv fr hmr
                  go_wp2_with (first
                    | (go_at_call 31; (with_reducible refine (hnan _).mono ?_); rintro e wn ⟨rfl, rfl⟩)
                    | fail)
                  go_roundg (4 - 3 - 1)
                  case measure => omega
                  case rel => exact ⟨3 + 1, by omega, rfl, HO⟩
                · have fr' : finF r = false := by simpa using fr
                  unfold mkF at hv
                  rw [if_neg fr] at hv
                  obtain ⟨e1, e2, e3, e4⟩ := nV_inj hv
                  subst e1 e2 e3 e4
                  obtain ⟨q, w5, hrun2, hord, hE5⟩ := run_sub_self Tryd.prog 24 r wc
                  rw [fr'] at hord
                  have hord' : (FloatKind.f64.format.order q 0 != some .eq) = true := by simpa [bne] using hord
                  obtain ⟨b0, b1, b2, b3, b4⟩ := (HB.out.ext hE5).cells
                  have HO := Lib.hid (HO.out.next hE5)
                  clear hv fr fr' hmr hE5 hord
                  go_wp2_with (first
                    | (go_at_call 31; (with_reducible refine (hnan _).mono ?_); rintro e wn ⟨rfl, rfl⟩)
                    | (go_at_call 20; (with_reducible refine (HS.out _).mono ?_); rintro e w6 ⟨rfl, hE6⟩; have HO := Lib.hid (HO.out.next hE6); clear hE6)
                    | fail)
                  go_roundg (4 - 3 - 1)
                  case measure => omega
                  case rel => exact ⟨3 + 1, by omega, rfl, HO⟩
        · have c1 : decide ((j : Int) < 4) = false := decide_eq_false (by omega)
          have c1' : decide (j < 4) = false := decide_eq_false hlt
          go_wp2_with fail
          go_ret
          exact ⟨rfl, HO.out.ext⟩
    · obtain ⟨r, w2, hrun, hord, hE⟩ := run_sub_self Tryd.prog 24 v w1
      rw [show finF v = false by simpa using fv] at hord
      have hord' : (FloatKind.f64.format.order r 0 != some .eq) = true := by simpa [bne] using hord
      have hsu := run_sub_fin fu 24
      have HX := Lib.hid (HE.out.trans hE)
      clear hE fu fv HK HU HV hord
      go_wp2_with fail
      go_ret
      exact ⟨rfl, HX.out⟩
  · obtain ⟨r, w2, hrun, hord, hE⟩ := run_sub_self Tryd.prog 24 u w1
    rw [show finF u = false by simpa using fu] at hord
    have hord' : (FloatKind.f64.format.order r 0 != some .eq) = true := by simpa [bne] using hord
    have HX := Lib.hid (HE.out.trans hE)
    clear hE fu HK HU HV hord
    go_wp2_with fail
    go_ret
    exact ⟨rfl, HX.out⟩

end Go.Proofs.YtlpifchimnnfdaaDoor
