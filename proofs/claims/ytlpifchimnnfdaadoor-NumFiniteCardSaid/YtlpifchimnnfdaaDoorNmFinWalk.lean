/- NumFinite's walk. -/
import Derived.Test.YtlpifchimnnfdaaDoorNmFinP
namespace Go.Proofs.YtlpifchimnnfdaaDoor
open Go.RowKit
attribute [local irreducible] Ext
attribute [local go_sem] run_store_float

/-- The row has been made: what remains. -/
structure FinAt (w0 wq : World) (so : Option Addr) (cap : Nat) (es : List Nu) (bS : Nat) : Prop where
  row : NRow w0 wq (.slice so es.length cap) es
  sg : ∀ j, j < 6 → wq.cell? ⟨bS, j, none⟩ = some (.string (sg6 j))
  few : es.length ≤ 5

def NLeft (w0 : World) (L : Nat) (x : Value) (wx : World) : Prop := ∃ so cap es, x = .slice so es.length cap ∧ NRow w0 wx x es ∧ es.length ≤ L

theorem sg_new (w : World) : ∀ j, j < 6 → (w.alloc (.cells #[.string ⟨#[43]⟩, .string ⟨#[45]⟩, .string ⟨#[42]⟩, .string ⟨#[47]⟩, .string ⟨#[100, 105, 118]⟩, .string ⟨#[114, 101, 109]⟩] 9)).cell? ⟨w.heap.size, j, none⟩ = some (.string (sg6 j)) := by
  intro j hj
  rw [cell_of_heap (heap_alloc_new w _)]
  match j, hj with
  | 0, _ => rfl
  | 1, _ => rfl
  | 2, _ => rfl
  | 3, _ => rfl
  | 4, _ => rfl
  | 5, _ => rfl

set_option maxRecDepth 100000 in
set_option maxHeartbeats 40000000 in
theorem numFin_any (u v : Nat) (n m : Int) (hu : u < 18446744073709551616) (hv : v < 18446744073709551616) (_ : -9223372036854775808 ≤ n ∧ n ≤ 9223372036854775807) (_ : -9223372036854775808 ≤ m ∧ m ≤ 9223372036854775807) (w : World) (ht : Tab4 w) :
    Calls Tryd.prog 5 #[.int .u64 u, .int .u64 v, .int .i64 n, .int .i64 m] w fun e w' => e = .returned (.bool true) ∧ Ext w w' := by
  have HK := Lib.hid (known_any w ht)
  have HU := Lib.hid hu
  have HV := Lib.hid hv
  have hA := int_ok n
  have hB := int_ok m
  obtain ⟨A, eA⟩ : ∃ A, n.tmod 576460752303423488 = A := ⟨_, rfl⟩
  obtain ⟨B, eB⟩ : ∃ B, m.tmod 576460752303423488 = B := ⟨_, rfl⟩
  rw [eA] at hA
  rw [eB] at hB
  have gA : -576460752303423488 ≤ A ∧ A ≤ 576460752303423487 := numV_int hA.1
  have gB : -576460752303423488 ≤ B ∧ B ≤ 576460752303423487 := numV_int hB.1
  have wA : IntKind.i64.wrap A = A := IntWalk.i64_in _ (by omega)
  have wB : IntKind.i64.wrap B = B := IntWalk.i64_in _ (by omega)
  have hi := fun n w => i_any n w
  have hf := fun w => f_any 0 w
  unfold tV at hi hf
  have HI := Lib.hid hi
  have HF := Lib.hid hf
  have HA := Lib.hid hA
  have HB := Lib.hid hB
  have hbu := fun w => pbits_any u hu w
  have hbv := fun w => pbits_any v hv w
  have HBU := Lib.hid hbu
  have HBV := Lib.hid hbv
  clear hi hf hA hB gA gB hu hv ht hbu hbv
  go_enter Tryd.func5, Tryd.ntmps5
  go_upto_region 4 with (first
    | (go_at_call 17; (with_reducible refine HK.out.mono ?_); rintro e w1 ⟨rfl, hE1⟩; have HE := Lib.hid hE1; clear hE1)
    | (go_at_call 27; (with_reducible refine (HI.out _ _).mono ?_); rintro e w1 ⟨rfl, hE1⟩; have HE := Lib.hid (HE.out.trans hE1); clear hE1)
    | (go_at_call 28; (with_reducible refine (HF.out _).mono ?_); rintro e w1 ⟨rfl, hE1⟩; have HE := Lib.hid (HE.out.trans hE1); clear hE1)
    | fail)
  have HR := Lib.hid (NRow.new HE.out (1, A, 0) (1, B, 0) (2, 0, 0) HA.out HB.out zero_ok)
  have HL := Lib.hid (show [((1 : Int), A, 0), ((1 : Int), B, 0), ((2 : Int), (0 : Int), 0)].length ≤ 3 from Nat.le_refl _)
  change Hid (NRow w (w1.alloc (.cells #[.int .i64 1, .int .i64 A, .float .f64 0, .string ⟨#[]⟩, .slice none 0 0, .int .i64 1, .int .i64 B, .float .f64 0, .string ⟨#[]⟩, .slice none 0 0, .int .i64 2, .int .i64 0, .float .f64 0, .string ⟨#[]⟩, .slice none 0 0] 27)) (.slice (some ⟨w1.heap.size, 0, none⟩) 3 3) _) at HR
  generalize w1.alloc (.cells #[.int .i64 1, .int .i64 A, .float .f64 0, .string ⟨#[]⟩, .slice none 0 0, .int .i64 1, .int .i64 B, .float .f64 0, .string ⟨#[]⟩, .slice none 0 0, .int .i64 2, .int .i64 0, .float .f64 0, .string ⟨#[]⟩, .slice none 0 0] 27) = w2 at HR ⊢
  generalize w1.heap.size = b9 at HR ⊢
  generalize [((1 : Int), A, 0), ((1 : Int), B, 0), ((2 : Int), (0 : Int), 0)] = es at HR HL
  obtain ⟨i0, hi, hz0, hz1, hz2⟩ := info_parts info5n
  have HI0 := Lib.hid (And.intro hi (And.intro hz0 (And.intro hz1 hz2)))
  clear hi hz0 hz1 hz2 HA HB HI HF HK wA wB eA eB HE
  obtain ⟨ak, af, ae, ha⟩ := mkF_form u
  rw [ha] at HBU
  unfold nV at HBU
  go_upto_region 5 with (first
    | (go_at_call 24; (with_reducible refine (HBU.out _).mono ?_); rintro e w3 ⟨rfl, hE3⟩; have HE3 := Lib.hid hE3; clear hE3)
    | fail)
  obtain ⟨w4, B4, hw4, hB4, hE4', hE4, hR4⟩ := kbox HE3.out ak 0 af
  rw [hw4, hB4]
  have HR := Lib.hid (HR.out.next hE4)
  have HB4 := Lib.hid hR4
  have HMA := Lib.hid ha
  clear hw4 hB4 hE4' hE4 hR4 HE3 ha HBU
  go_upto_if 37 with (fail)
  go_cut [9] from 38 to 41 (fun xx wx => NLeft w 4 xx wx)
  case first =>
    have hF := HMA.out
    unfold mkF at hF
    by_cases fu : finF u = true
    · rw [if_pos fu] at hF
      obtain ⟨e1, e2, e3, e4⟩ := nV_eq hF
      subst e1 e3 e4
      have HOK := Lib.hid (show nuOk (2, 0, u) from ⟨numV_2 fu, HU.out⟩)
      obtain ⟨so, cap, hsl⟩ := HR.out.slice
      injection hsl with q1 q2 q3
      subst q1 q3
      try clear q2
      obtain ⟨c0, c1, c2, c3, c4⟩ := HB4.out.cells
      have hsrc := src_nu (w := w4.alloc (.cells #[.int .i64 2, .int .i64 0, .float .f64 u, .string ⟨#[]⟩, .slice none 0 0] 27)) (2, 0, u) (heap_alloc_new w4 _)
      have HSRC := Lib.hid hsrc
      have HRA := Lib.hid (HR.out.next ((Ext.refl w4).alloc (.cells #[.int .i64 2, .int .i64 0, .float .f64 u, .string ⟨#[]⟩, .slice none 0 0] 27)))
      clear hF fu hsrc e2
      go_wp2_with (first
        | (at_builtin
           obtain ⟨hi, hz0, hz1, hz2⟩ := HI0.out
           refine wpList_app rfl (.tmp 38) (.tmp 40) 25 rfl w.heap.size 27 i0 (.agg #[.int .i64 0, .int .i64 0, .float .f64 0, .string ⟨#[]⟩, .slice none 0 0]) 5 64 Tryd.underlying25 hi hz0 hz1 hz2 rfl (by decide) _ _ _ rfl HRA.out.own (some ⟨w4.heap.size, 0, none⟩) 1 1 (nuC (2, 0, u)) rfl rfl HSRC.out (nuC_ones _) (by have := HL.out; omega) (by decide) HRA.out.ext.size ?_
           intro so3 cap3 w5 hown3 hM3 hb3
           have HR5 := Lib.hid (HRA.out.push HOK.out hown3 (ext_of_mod HRA.out.ext hM3 (fun k hk => own_base' HRA.out.own hk.symm)))
           clear hown3 hM3 hb3)
        | fail)
      go_meet
      exact ⟨_, _, _, by rw [List.length_append]; rfl, HR5.out, by rw [List.length_append]; have := HL.out; simp; omega⟩
    · rw [if_neg fu] at hF
      obtain ⟨e1, e2, e3, e4⟩ := nV_eq hF
      subst e1 e3 e4
      obtain ⟨so, cap, hsl⟩ := HR.out.slice
      have HSL := Lib.hid hsl
      clear hF fu e2 hsl
      go_wp2_with fail
      go_meet
      exact ⟨so, cap, es, HSL.out, HR.out, by have := HL.out; omega⟩
  case rest =>
    obtain ⟨so9, cap9, es9, rfl, hR9, hL9⟩ := hcut
    rename World => w5
    have HR := Lib.hid hR9
    have HL := Lib.hid hL9
    clear hR9 hL9 HB4 HMA
    obtain ⟨bk, bf, be, hb⟩ := mkF_form v
    rw [hb] at HBV
    unfold nV at HBV
    go_upto_region 8 with (first
      | (go_at_call 24; (with_reducible refine (HBV.out _).mono ?_); rintro e w6 ⟨rfl, hE6⟩; have HE6 := Lib.hid hE6; clear hE6)
      | fail)
    obtain ⟨w7, B7, hw7, hB7, hE7', hE7, hR7⟩ := kbox HE6.out bk 0 bf
    rw [hw7, hB7]
    have HR := Lib.hid (HR.out.next hE7)
    have HB7 := Lib.hid hR7
    have HMB := Lib.hid hb
    clear hw7 hB7 hE7' hE7 hR7 HE6 hb HBV
    go_upto_if 48 with (fail)
    go_cut [9] from 49 to 52 (fun xx wx => NLeft w 5 xx wx)
    case first =>
      have hF := HMB.out
      unfold mkF at hF
      by_cases fu : finF v = true
      · rw [if_pos fu] at hF
        obtain ⟨e1, e2, e3, e4⟩ := nV_eq hF
        subst e1 e3 e4
        have HOK := Lib.hid (show nuOk (2, 0, v) from ⟨numV_2 fu, HV.out⟩)
        obtain ⟨so, cap, hsl⟩ := HR.out.slice
        injection hsl with q1 q2 q3
        subst q1 q3
        try clear q2
        obtain ⟨c0, c1, c2, c3, c4⟩ := HB7.out.cells
        have hsrc := src_nu (w := w7.alloc (.cells #[.int .i64 2, .int .i64 0, .float .f64 v, .string ⟨#[]⟩, .slice none 0 0] 27)) (2, 0, v) (heap_alloc_new w7 _)
        have HSRC := Lib.hid hsrc
        have HRA := Lib.hid (HR.out.next ((Ext.refl w7).alloc (.cells #[.int .i64 2, .int .i64 0, .float .f64 v, .string ⟨#[]⟩, .slice none 0 0] 27)))
        clear hF fu hsrc e2
        go_wp2_with (first
          | (at_builtin
             obtain ⟨hi, hz0, hz1, hz2⟩ := HI0.out
             refine wpList_app rfl (.tmp 49) (.tmp 51) 25 rfl w.heap.size 27 i0 (.agg #[.int .i64 0, .int .i64 0, .float .f64 0, .string ⟨#[]⟩, .slice none 0 0]) 5 64 Tryd.underlying25 hi hz0 hz1 hz2 rfl (by decide) _ _ _ rfl HRA.out.own (some ⟨w7.heap.size, 0, none⟩) 1 1 (nuC (2, 0, v)) rfl rfl HSRC.out (nuC_ones _) (by have := HL.out; omega) (by decide) HRA.out.ext.size ?_
             intro so3 cap3 w5 hown3 hM3 hb3
             have HR5 := Lib.hid (HRA.out.push HOK.out hown3 (ext_of_mod HRA.out.ext hM3 (fun k hk => own_base' HRA.out.own hk.symm)))
             clear hown3 hM3 hb3)
          | fail)
        go_meet
        exact ⟨_, _, _, by rw [List.length_append]; rfl, HR5.out, by rw [List.length_append]; have := HL.out; simp; omega⟩
      · rw [if_neg fu] at hF
        obtain ⟨e1, e2, e3, e4⟩ := nV_eq hF
        subst e1 e3 e4
        obtain ⟨so, cap, hsl⟩ := HR.out.slice
        have HSL := Lib.hid hsl
        clear hF fu e2 hsl
        go_wp2_with fail
        go_meet
        exact ⟨so, cap, es9, HSL.out, HR.out, by have := HL.out; omega⟩
    case rest =>
      obtain ⟨so, cap, es, rfl, hR9, hL9⟩ := hcut
      rename World => w8
      have HR := Lib.hid hR9
      have HL := Lib.hid hL9
      have hL9' := hL9
      clear hR9 hL9 HB7 HMB
      go_upto_region 11 with (fail)
      have hsg := sg_new w8
      have hEs := (Ext.refl w8).alloc (.cells #[.string ⟨#[43]⟩, .string ⟨#[45]⟩, .string ⟨#[42]⟩, .string ⟨#[47]⟩, .string ⟨#[100, 105, 118]⟩, .string ⟨#[114, 101, 109]⟩] 9)
      generalize w8.alloc (.cells #[.string ⟨#[43]⟩, .string ⟨#[45]⟩, .string ⟨#[42]⟩, .string ⟨#[47]⟩, .string ⟨#[100, 105, 118]⟩, .string ⟨#[114, 101, 109]⟩] 9) = wq at hsg hEs ⊢
      generalize w8.heap.size = bS at hsg ⊢
      have HQ := Lib.hid (show FinAt w wq so cap es bS from ⟨HR.out.next hEs, hsg, hL9'⟩)
      obtain ⟨ln, hln⟩ : ∃ ln, es.length = ln := ⟨_, rfl⟩
      rw [hln]
      have HLN := Lib.hid (And.intro hln (show ln ≤ 5 by rw [← hln]; exact hL9'))
      have hrt := fun k n f w => right_any k n f ⟨#[]⟩ none 0 0 w
      have hss := fun k n f w => same_self k n f w
      unfold tV at hss
      have HRT := Lib.hid hrt
      have HSS := Lib.hid hss
      clear hsg hEs HR HL hln hL9' hrt hss
      go_wp2_with fail
      go_loopg [14] ln (fun g i wr => ∃ j : Nat, j + g = ln ∧ i = .int .i64 j ∧ Hid (Ext wq wr))
      case atStart => exact ⟨0, by omega, rfl, Lib.hid (Ext.refl wq)⟩
      case round =>
        obtain ⟨j, hj, rfl, HE⟩ := hrel
        have hln5 := HLN.out.2
        by_cases hlt : j < ln
        · have c1 : decide ((j : Int) < (ln : Int)) = true := decide_eq_true (by omega)
          have c1' : decide (j < ln) = true := decide_eq_true hlt
          have e1 : IntKind.i64.wrap ((j : Int) + 1) = ((j + 1 : Nat) : Int) := by rw [IntWalk.i64_in _ (by omega)]; rfl
          have HJ := Lib.hid (And.intro hlt hj)
          clear hln5
          go_wp2_with fail
          go_loopg [15] ln (fun g i wr => ∃ j2 : Nat, j2 + g = ln ∧ i = .int .i64 j2 ∧ Hid (Ext wq wr))
          case atStart => exact ⟨0, by omega, rfl, HE⟩
          case round =>
            obtain ⟨j2, hj2, rfl, HE⟩ := hrel
            have hln5 := HLN.out.2
            by_cases hlt2 : j2 < ln
            · have c2 : decide ((j2 : Int) < (ln : Int)) = true := decide_eq_true (by omega)
              have c2' : decide (j2 < ln) = true := decide_eq_true hlt2
              have e2 : IntKind.i64.wrap ((j2 : Int) + 1) = ((j2 + 1 : Nat) : Int) := by rw [IntWalk.i64_in _ (by omega)]; rfl
              have HJ2 := Lib.hid (And.intro hlt2 hj2)
              clear hln5
              go_wp2_with fail
              go_loopg [16] 6 (fun g i wr => ∃ s : Nat, s + g = 6 ∧ i = .int .i64 s ∧ Hid (Ext wq wr))
              case atStart => exact ⟨0, by omega, rfl, HE⟩
              case round =>
                obtain ⟨s, hs, rfl, HE⟩ := hrel
                by_cases hlt3 : s < 6
                · have c3 : decide ((s : Int) < 6) = true := decide_eq_true (by omega)
                  have c3' : decide (s < 6) = true := decide_eq_true hlt3
                  have e3 : IntKind.i64.wrap ((s : Int) + 1) = ((s + 1 : Nat) : Int) := by rw [IntWalk.i64_in _ (by omega)]; rfl
                  have HS := Lib.hid (And.intro hlt3 hs)
                  obtain ⟨a, ha⟩ : ∃ a, es[j]? = some a := ⟨es[j]'(by have := HJ.out.1; have := HLN.out.1; omega), List.getElem?_eq_getElem _⟩
                  obtain ⟨b, hb⟩ : ∃ b, es[j2]? = some b := ⟨es[j2]'(by have := HJ2.out.1; have := HLN.out.1; omega), List.getElem?_eq_getElem _⟩
                  have hr := HQ.out.row.next HE.out
                  obtain ⟨g, rfl, _⟩ := hr.cells ha
                  have hoa := hr.ok a (List.mem_of_getElem? ha)
                  have hob := hr.ok b (List.mem_of_getElem? hb)
                  obtain ⟨rk, rn, rf, re, hop1, hop2, htold⟩ := op_nu s hoa hob
                  have hsg := HQ.out.sg s hlt3
                  obtain ⟨sg, esg⟩ : ∃ sg, sg6 s = sg := ⟨_, rfl⟩
                  rw [esg] at hop1 hop2 hsg
                  have HXA := Lib.hid (hr.exts ha)
                  have HXB := Lib.hid (hr.exts hb)
                  have HXS := Lib.hid (fun w' (h : Ext wr w') => (HE.out.trans h).cell hsg)
                  obtain ⟨ak, an, af⟩ := a
                  obtain ⟨bk, bn, bf⟩ := b
                  unfold tV nV at hop1 hop2
                  have HOP1 := Lib.hid hop1
                  have HOP2 := Lib.hid hop2
                  have HTOLD := Lib.hid htold
                  have hj0 : (0 : Int) ≤ (j : Int) := by omega
                  have hj1 : (j : Int) < (ln : Int) := by have := HJ.out.1; omega
                  have hk0 : (0 : Int) ≤ (j2 : Int) := by omega
                  have hk1 : (j2 : Int) < (ln : Int) := by have := HJ2.out.1; omega
                  have hs0 : (0 : Int) ≤ (s : Int) := by omega
                  have hs1 : (s : Int) < 6 := by omega
                  have hre : (re != re) = false := by simp
                  clear ha hb hr hoa hob hop1 hop2 htold hsg esg hlt3
                  go_upto_region 20 with (fail)
                  go_cut [17, 18] from 72 to 87 (fun xx yy wx => Left wr rk rn rf re xx yy wx)
                  case first =>
                    have hE0 := Ext.refl wr
                    obtain ⟨x0, x1, x2, x3, x4⟩ := HXA.out
                    obtain ⟨y0, y1, y2, y3, y4⟩ := HXB.out
                    have z0 := HXS.out
                    go_region_held3 (fun w' => Ext wr w') (repeat (first | assumption | apply Ext.drew | apply Ext.alloc))
                      (first
                        | (go_at_call 25
                           (with_reducible refine (HOP1.out _).mono ?_)
                           rintro e v0 ⟨rfl, hEv0⟩
                           first
                             | have hWv0 : Ext wr v0 := (Ext.refl wr).drew.trans hEv0
                             | have hWv0 : Ext wr v0 := ((Ext.refl wr).alloc _).drew.trans hEv0
                           first
                             | have HS := Lib.hid (end_any hWv0 (Nat.le_refl _) (end_made ((Ext.refl _).drew.trans hEv0)) rk rn rf)
                             | have HS := Lib.hid (end_behind hWv0 rk rn rf)
                           obtain ⟨⟨g0, g1, g2, g3, g4⟩, ⟨a0, a1, a2, a3, a4⟩, _⟩ := HS.out.1
                           have hWs := HS.out.2.1
                           have HEND := Lib.hid HS.out.2
                           unfold set5 at hWs HEND)
                        | fail)
                    all_goals go_wp2
                    all_goals go_meet
                    all_goals first
                      | exact ⟨_, rfl, rfl, HEND.out⟩
                      | exact left_new hWv0 _ _ _ _
                  case rest =>
                    obtain ⟨B17, rfl, rfl, hE1, hB1⟩ := hcut
                    rename World => wd
                    have HED := Lib.hid hE1
                    have hsd := fun w' (h : Ext wd w') => HXS.out w' (HED.out.trans h)
                    obtain ⟨p0, p1, p2, p3, p4⟩ := hB1.exts
                    have hX0 := Ext.refl wd
                    have hrt := HRT.out rk rn rf
                    have hss := HSS.out rk rn rf
                    have HB1 := Lib.hid hB1
                    clear hE1 hB1
                    go_upto_region 21 with (fail)
                    go_cut [104] from 88 to 103 (fun xx wx => xx = .bool false ∧ Hid (Ext wd wx))
                    case first =>
                      rcases HTOLD.out with ⟨rfl, hrb⟩ | ⟨hne, rfl, rfl, rfl⟩
                      · rw [hrb] at hrt
                        have HRT1 := Lib.hid hrt
                        clear hrb hrt hss HTOLD
                        go_wp2_with (first
                          | (go_at_call 29; (with_reducible refine (HRT1.out _).mono ?_); rintro e we ⟨rfl, hEe⟩; have HX1 := Lib.hid hEe; clear hEe)
                          | fail)
                        go_meet
                        exact ⟨rfl, HX1⟩
                      · have c5 : (re == 0) = false := beq_eq_false_iff_ne.2 hne
                        have c6 : (re != 0) = true := by rw [bne, c5]; rfl
                        have HSS1 := Lib.hid hss
                        clear hne hrt hss HTOLD
                        go_wp2_with (first
                          | (go_at_call 20; (with_reducible refine (HSS1.out _).mono ?_); rintro e we ⟨rfl, hEe⟩; have HX1 := Lib.hid hEe; clear hEe)
                          | fail)
                        go_meet
                        exact ⟨rfl, HX1⟩
                    case rest =>
                      obtain ⟨rfl, HX1⟩ := hcut
                      rename World => we
                      have hX1 := HX1.out
                      have HSS1 := Lib.hid hss
                      clear hrt hss HTOLD
                      go_upto_region 23 with (fail)
                      obtain ⟨q, hq⟩ : ∃ q, (!(sg.toList == [43]) && !(sg.toList == [42])) = q := ⟨_, rfl⟩
                      have HQQ := Lib.hid hq
                      go_cut [116] from 105 to 115 (fun xx wx => xx = .bool q ∧ we = wx)
                      case first =>
                        clear hq
                        cases b1 : (sg.toList == [43])
                        · cases b2 : (sg.toList == [42])
                          all_goals
                            have hq := HQQ.out
                            rw [b1, b2] at hq
                            obtain rfl := hq
                            go_wp2_with fail
                            go_meet
                            exact ⟨rfl, rfl⟩
                        · have hq := HQQ.out
                          rw [b1] at hq
                          obtain rfl := hq
                          go_wp2_with fail
                          go_meet
                          exact ⟨rfl, rfl⟩
                      case rest =>
                        obtain ⟨rfl, rfl⟩ := hcut
                        clear hq hX0 hX1 hsd p0 p1 p2 p3 p4
                        have HEN := Lib.hid (HE.out.trans (HED.out.trans HX1.out))
                        cases q
                        · have HOP2 := Lib.hid (HOP2.out (by
                            have h := HQQ.out
                            cases b1 : (sg.toList == [43])
                            · cases b2 : (sg.toList == [42])
                              · rw [b1, b2] at h; cases h
                              · exact .inr (sg_42 b2)
                            · exact .inl (sg_43 b1)))
                          go_upto_region 24 with (fail)
                          go_cut [19, 20] from 117 to 132 (fun xx yy wx => Left we rk rn rf re xx yy wx)
                          case first =>
                            have hE0 := Ext.refl we
                            obtain ⟨x0, x1, x2, x3, x4⟩ := HXA.out
                            obtain ⟨y0, y1, y2, y3, y4⟩ := HXB.out
                            have z0 := HXS.out
                            have hx1 := fun w' (h : Ext we w') => (HED.out.trans HX1.out).trans h
                            go_region_held3 (fun w' => Ext we w') (repeat (first | assumption | apply Ext.drew | apply Ext.alloc))
                              (first
                                | (go_at_call 25
                                   (with_reducible refine (HOP2.out _).mono ?_)
                                   rintro e v0 ⟨rfl, hEv0⟩
                                   first
                                     | have hWv0 : Ext we v0 := (Ext.refl we).drew.trans hEv0
                                     | have hWv0 : Ext we v0 := ((Ext.refl we).alloc _).drew.trans hEv0
                                   first
                                     | have HS := Lib.hid (end_any hWv0 (Nat.le_refl _) (end_made ((Ext.refl _).drew.trans hEv0)) rk rn rf)
                                     | have HS := Lib.hid (end_behind hWv0 rk rn rf)
                                   obtain ⟨⟨g0, g1, g2, g3, g4⟩, ⟨a0, a1, a2, a3, a4⟩, _⟩ := HS.out.1
                                   have hWs := HS.out.2.1
                                   have HEND := Lib.hid HS.out.2
                                   unfold set5 at hWs HEND)
                                | fail)
                            all_goals go_wp2
                            all_goals go_meet
                            all_goals first
                              | exact ⟨_, rfl, rfl, HEND.out⟩
                              | exact left_new hWv0 _ _ _ _
                          case rest =>
                            obtain ⟨B19, rfl, rfl, hE2, hB2⟩ := hcut
                            rename World => wf
                            obtain ⟨q0, q1, q2, q3, q4⟩ := hB2.cells
                            obtain ⟨r0, r1, r2, r3, r4⟩ := (HB1.out.ext (HX1.out.trans hE2)).cells
                            have HEN := Lib.hid (HEN.out.trans hE2)
                            clear hE2 hB2
                            go_wp2_with (first
                              | (go_at_call 20; (with_reducible refine (HSS1.out _).mono ?_); rintro e wg ⟨rfl, hEg⟩; have HEN := Lib.hid (HEN.out.trans hEg); clear hEg)
                              | fail)
                            go_roundg (6 - s - 1)
                            case measure => have := HS.out; omega
                            case rel => exact ⟨s + 1, by have := HS.out; omega, rfl, HEN⟩

                        · go_wp2_with fail
                          go_roundg (6 - s - 1)
                          case measure => have := HS.out; omega
                          case rel => exact ⟨s + 1, by have := HS.out; omega, rfl, HEN⟩

                · have c3 : decide ((s : Int) < 6) = false := decide_eq_false (by omega)
                  have c3' : decide (s < 6) = false := decide_eq_false hlt3
                  go_wp2_with fail
                  go_roundg (ln - j2 - 1)
                  case measure => have := HJ2.out; omega
                  case rel => exact ⟨j2 + 1, by have := HJ2.out; omega, rfl, HE⟩
            · have c2 : decide ((j2 : Int) < (ln : Int)) = false := decide_eq_false (by omega)
              have c2' : decide (j2 < ln) = false := decide_eq_false hlt2
              go_wp2_with fail
              go_roundg (ln - j - 1)
              case measure => have := HJ.out; omega
              case rel => exact ⟨j + 1, by have := HJ.out; omega, rfl, HE⟩
        · have c1 : decide ((j : Int) < (ln : Int)) = false := decide_eq_false (by omega)
          have c1' : decide (j < ln) = false := decide_eq_false hlt
          go_wp2_with fail
          go_ret
          exact ⟨rfl, HQ.out.row.ext.trans HE.out⟩

end Go.Proofs.YtlpifchimnnfdaaDoor
