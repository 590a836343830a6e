/- InboxTakes' walk. -/
import Derived.Test.YteiognkbkpidiaaInBx
namespace Go.Proofs.Yteiognkbkpidiaa
open Go.RowKit
attribute [local irreducible] Ext
attribute [local go_sem] run_store_float

theorem RowIn.elem2 {own : Bool} {w : World} {G : Nat → Prop} {l : List Tm} {so : Option Addr} (h : RowIn w own G l so 0) {j : Nat} {x : Tm} (hx : l[j]? = some x) :
    ∃ b o so' cap', so = some ⟨b, o, none⟩ ∧ (w.cell? ⟨b, o + j * 5, none⟩ = some (.int .i64 x.kind) ∧ w.cell? ⟨b, o + j * 5 + 1, none⟩ = some (.int .i64 x.n) ∧ w.cell? ⟨b, o + j * 5 + 2, none⟩ = some (.float .f64 x.f) ∧ w.cell? ⟨b, o + j * 5 + 3, none⟩ = some (.string x.s) ∧
      w.cell? ⟨b, o + j * 5 + 4, none⟩ = some (.slice so' x.l.length cap')) ∧ RowIn w own G x.l so' 0 := by
  obtain ⟨b, o, e, _, _, hi⟩ := h.get hx
  rw [Nat.zero_add] at hi
  obtain ⟨h0, h1, h2, h3, so', cap', h4, hr⟩ := hi.cells
  exact ⟨b, o, so', cap', e, ⟨h0, h1, h2, h3, h4⟩, hr⟩

/-- A term's five cells. -/
def Cells5 (w : World) (b o : Nat) (x : Tm) (so : Option Addr) (cap : Nat) : Prop :=
  w.cell? ⟨b, o, none⟩ = some (.int .i64 x.kind) ∧ w.cell? ⟨b, o + 1, none⟩ = some (.int .i64 x.n) ∧ w.cell? ⟨b, o + 2, none⟩ = some (.float .f64 x.f) ∧ w.cell? ⟨b, o + 3, none⟩ = some (.string x.s) ∧ w.cell? ⟨b, o + 4, none⟩ = some (.slice so x.l.length cap)

theorem Cells5.ext {w w' : World} {b o : Nat} {x : Tm} {so : Option Addr} {cap : Nat} (h : Cells5 w b o x so cap) (hE : Ext w w') : Cells5 w' b o x so cap :=
  ⟨hE.cell h.1, hE.cell h.2.1, hE.cell h.2.2.1, hE.cell h.2.2.2.1, hE.cell h.2.2.2.2⟩

theorem ok_at {l : List Tm} (h : okL l) {j : Nat} {x : Tm} (hx : l[j]? = some x) : okT x := ok_mem h (List.mem_of_getElem? hx)

theorem tmod_low (n : Int) {k : Int} (hk : 0 < k) : -k < n.tmod k := by
  by_cases h : 0 ≤ n
  · have := Int.tmod_nonneg k h; omega
  · have h1 := Int.tmod_lt_of_pos (-n) hk
    rw [Int.neg_tmod] at h1
    omega

theorem info_parts6 {t : TypeId} {z : Value} {n by_ : Nat} (h : (Try.prog.info? t).map (fun i => (i.zero, i.size, i.bytes)) = some (some z, n, by_)) : ∃ i, Try.prog.info? t = some i ∧ i.zero = some z ∧ i.size = n ∧ i.bytes = by_ := info_parts h

theorem Cells5.exts {w : World} {b o : Nat} {x : Tm} {so : Option Addr} {cap : Nat} (h : Cells5 w b o x so cap) : (∀ w', Ext w w' → w'.cell? ⟨b, o, none⟩ = some (.int .i64 x.kind)) ∧ (∀ w', Ext w w' → w'.cell? ⟨b, o + 1, none⟩ = some (.int .i64 x.n)) ∧ (∀ w', Ext w w' → w'.cell? ⟨b, o + 2, none⟩ = some (.float .f64 x.f)) ∧
    (∀ w', Ext w w' → w'.cell? ⟨b, o + 3, none⟩ = some (.string x.s)) ∧ (∀ w', Ext w w' → w'.cell? ⟨b, o + 4, none⟩ = some (.slice so x.l.length cap)) :=
  ⟨fun _ hE => (h.ext hE).1, fun _ hE => (h.ext hE).2.1, fun _ hE => (h.ext hE).2.2.1, fun _ hE => (h.ext hE).2.2.2.1, fun _ hE => (h.ext hE).2.2.2.2⟩

theorem RBox.exts {w : World} {b : Nat} {k n : Int} {f : Nat} {s : ByteArray} {so : Option Addr} {m cap : Nat} (h : RBox w b k n f s so m cap) : (∀ w', Ext w w' → w'.cell? ⟨b, 0, none⟩ = some (.int .i64 k)) ∧ (∀ w', Ext w w' → w'.cell? ⟨b, 1, none⟩ = some (.int .i64 n)) ∧ (∀ w', Ext w w' → w'.cell? ⟨b, 2, none⟩ = some (.float .f64 f)) ∧
    (∀ w', Ext w w' → w'.cell? ⟨b, 3, none⟩ = some (.string s)) ∧ (∀ w', Ext w w' → w'.cell? ⟨b, 4, none⟩ = some (.slice so m cap)) :=
  ⟨fun _ hE => (h.ext hE).cells.1, fun _ hE => (h.ext hE).cells.2.1, fun _ hE => (h.ext hE).cells.2.2.1, fun _ hE => (h.ext hE).cells.2.2.2.1, fun _ hE => (h.ext hE).cells.2.2.2.2⟩

theorem erase_at {l : List Tm} {p k q : Nat} {y : Tm} (hq : q = if k ≤ p then k else k - 1) (hk : k ≠ p) (hy : l[k]? = some y) : (l.eraseIdx p)[q]? = some y := by
  rw [List.getElem?_eraseIdx]
  subst hq
  split
  · rw [if_pos (by omega)]; exact hy
  · rw [if_neg (by omega), show k - 1 + 1 = k by omega]; exact hy

set_option maxRecDepth 100000 in
set_option maxHeartbeats 20000000 in
theorem takes_any (a0 : Option Addr) (cap : Nat) (l : List Tm) (n : Int) (W : World) (hl : RowIn W false (fun k => k < W.heap.size) l a0 0) (hok : okL l) (hc : cntL l ≤ 1048576) (hn : -9223372036854775808 ≤ n ∧ n ≤ 9223372036854775807) :
    Calls Try.prog 3 #[.slice a0 l.length cap, .int .i64 n] W fun e w' => e = .returned (.bool true) ∧ Ext W w' := by
  have HL := Lib.hid (And.intro hl (And.intro hok (And.intro hc (And.intro hn (show l.length ≤ 1048576 by have := len_cnt l; omega)))))
  obtain ⟨i0, hi, hz0, hz1, hz2⟩ := info_parts6 info6
  have HI := Lib.hid (And.intro hi (And.intro hz0 (And.intro hz1 hz2)))
  clear hl hok hc hn hi hz0 hz1 hz2
  go_enter Try.func3, Try.ntmps3
  go_upto_region 3 with (go_at_call 6; (with_reducible refine (known_any _).mono ?_); rintro e w0 ⟨rfl, hE⟩; have HE := Lib.hid hE; clear hE)
  go_wp2_with fail
  go_loopg [5, 6] l.length (fun g o i wr => ∃ (j : Nat) (es : List (Int × El)), j + g = l.length ∧ i = .int .i64 j ∧ Hid (es.map (fun e => e.2.1) = l.take j) ∧ Hid (∀ x ∈ l.take j, checkT x = 0) ∧ Hid (ARow W wr o es) ∧ Hid (Ext W wr))
  case atStart => exact ⟨0, [], by omega, rfl, Lib.hid rfl, Lib.hid (by simp), Lib.hid (ARow.nil _ _), HE⟩
  case round =>
    obtain ⟨j, es, hj, rfl, HES, HCK, HA, HE⟩ := hrel
    have hlen : es.length = j := by
      have := congrArg List.length HES.out
      rw [List.length_map, List.length_take] at this
      omega
    have hj6 : j ≤ 1048576 := by have := HL.out.2.2.2.2; omega
    by_cases hlt : j < l.length
    · have c1 : decide ((j : Int) < (l.length : Int)) = true := decide_eq_true (by omega)
      have c1' : decide (j < l.length) = true := decide_eq_true hlt
      obtain ⟨x, hx⟩ : ∃ x, l[j]? = some x := ⟨l[j]'hlt, List.getElem?_eq_getElem hlt⟩
      obtain ⟨b, o, so', cap', hso, h5, hrw⟩ := HL.out.1.elem2 hx
      have H5 : Hid (Cells5 W b (o + j * 5) x so' cap') := Lib.hid h5
      subst hso
      obtain ⟨q0, q1, q2, q3, q4⟩ := H5.out.ext HE.out
      have HX := Lib.hid (And.intro hx (And.intro hrw (And.intro (show cntT x ≤ 1048576 by have := cnt_mem (List.mem_of_getElem? hx); have := HL.out.2.2.1; omega) hlen)))
      have hsrc := src_act (w := wr.alloc (.cells #[.int .i64 0, .int .i64 x.kind, .int .i64 x.n, .float .f64 x.f, .string x.s, .slice so' x.l.length cap'] 29)) (0, x, so', cap') (heap_alloc_new wr _)
      have HSRC := Lib.hid hsrc
      have HEa := Lib.hid ((Ext.refl wr).alloc (.cells #[.int .i64 0, .int .i64 x.kind, .int .i64 x.n, .float .f64 x.f, .string x.s, .slice so' x.l.length cap'] 29))
      obtain ⟨s0, k0, rfl⟩ := HA.out.slice
      have e3 : IntKind.i64.wrap ((j : Int) + 1) = ((j + 1 : Nat) : Int) := by rw [IntWalk.i64_in _ (by omega)]; rfl
      clear hx hrw h5 hsrc hlen
      go_upto_region 8 with (first
        | (at_builtin
           obtain ⟨hi, hz0, hz1, hz2⟩ := HI.out
           refine wpList_app rfl (.tmp 27) (.tmp 33) 24 rfl W.heap.size 29 i0 (.agg #[.int .i64 0, .int .i64 0, .int .i64 0, .float .f64 0, .string ⟨#[]⟩, .slice none 0 0]) 6 72 Try.underlying24 hi hz0 hz1 hz2 rfl (by decide) _ _ _ rfl (HA.out.ext HEa.out).own (some ⟨wr.heap.size, 0, none⟩) 1 1 (acC (0, x, so', cap')) rfl rfl HSRC.out (acC_ones _) (by have := HX.out.2.2.2; omega) (by decide) (by have := HE.out.size; have := HEa.out.size; omega) ?_
           intro so3 cap3 w3 hown3 hM3 hb3
           have HA3 := Lib.hid ((HA.out.ext HEa.out).push HX.out.2.1 hown3)
           have HE3 := Lib.hid (show Ext W w3 from ext_of_mod (HE.out.trans HEa.out) hM3 (fun k hk => own_base' HA.out.own hk.symm))
           clear hown3 hM3 hb3)
        | fail)
      clear q0 q1 q2 q3 q4
      obtain ⟨q0, q1, q2, q3, q4⟩ := H5.out.ext HE3.out
      have hcall := right_any w3 (TmV.mk' (so := so') (cap := cap') (HX.out.2.1.ext HE3.out)) (by have := HX.out.2.2.1; omega)
      unfold elV at hcall
      cases hr : rightT x with
      | false =>
        rw [hr] at hcall
        clear hr
        go_wp2_with (first
          | ((with_reducible refine hcall.mono ?_)
             rintro e w4 ⟨rfl, hE4⟩
             have HE4 := Lib.hid (HE3.out.trans hE4)
             clear hcall hE4)
          | fail)
        go_ret
        exact ⟨rfl, HE4.out⟩
      | true =>
        rw [hr] at hcall
        have HR := Lib.hid (show checkT x = 0 from of_decide_eq_true hr)
        clear hr
        go_wp2_with (first
          | ((with_reducible refine hcall.mono ?_)
             rintro e w4 ⟨rfl, hE4⟩
             have HE4 := Lib.hid (HE3.out.trans hE4)
             have HA4 := Lib.hid (HA3.out.ext hE4)
             clear hcall hE4)
          | fail)
        go_roundg (l.length - j - 1)
        case measure => omega
        case rel =>
          refine ⟨j + 1, es ++ [(0, x, so', cap')], by omega, rfl, Lib.hid ?_, Lib.hid ?_, HA4, HE4⟩
          · rw [List.map_append, HES.out, List.take_add_one, HX.out.1]
            rfl
          · intro y hy
            rw [List.take_add_one, HX.out.1] at hy
            rcases List.mem_append.1 hy with hy | hy
            · exact HCK.out y hy
            · obtain rfl : y = x := by simpa using hy
              exact HR.out
    · have c1 : decide ((j : Int) < (l.length : Int)) = false := decide_eq_false (by omega)
      have c1' : decide (j < l.length) = false := decide_eq_false hlt
      obtain rfl : j = l.length := by omega
      obtain ⟨s0, k0, rfl⟩ := HA.out.slice
      have hbx := bx_new HE.out
      have HNW := Lib.hid hbx
      obtain ⟨w1, hw1⟩ : ∃ w1, wr.alloc (.cells #[.int .i64 16777216, .int .i64 0, .slice none 0 0, .int .i64 0] 59) = w1 := ⟨_, rfl⟩
      have HE1 := Lib.hid (show Ext wr w1 by rw [← hw1]; exact (Ext.refl wr).alloc _)
      rw [hw1] at HNW
      have HACT := Lib.hid ((HA.out.ext HE1.out).acts (HE.out.trans HE1.out))
      have hfew := few_acts (es.map fun e => (e.1, e.2.1)) false (fun k => k < W.heap.size) s0 k0 w1 HACT.out (by rw [List.length_map]; omega)
      rw [List.length_map] at hfew
      clear hbx hlen hj6
      go_upto_region 11 with (first
        | (go_at_call 8; (with_reducible refine (new_ok 16777216 _ (by decide) (by decide)).mono ?_); rintro e w' ⟨rfl, rfl⟩)
        | fail)
      clear hw1
      cases hB : fewB (es.map fun e => (e.1, e.2.1)) with
      | false =>
        rw [hB] at hfew
        clear hB
        go_wp2_with (first
          | ((with_reducible refine hfew.mono ?_)
             rintro e w4 ⟨rfl, hE4⟩
             have HE4 := Lib.hid ((HE.out.trans HE1.out).trans hE4)
             clear hfew hE4)
          | fail)
        go_ret
        exact ⟨rfl, HE4.out⟩
      | true =>
        rw [hB] at hfew
        clear hB
        by_cases h0 : l.length = 0
        · have hnil : l = [] := List.length_eq_zero_iff.1 h0
          clear h0
          subst hnil
          go_wp2_with (first
            | ((with_reducible refine hfew.mono ?_)
               rintro e w4 ⟨rfl, hE4⟩
               have HE4 := Lib.hid ((HE.out.trans HE1.out).trans hE4)
               clear hfew hE4)
            | fail)
          all_goals go_ret
          all_goals exact ⟨rfl, HE4.out⟩
        · have b1 : ((l.length : Int) == 0) = false := beq_eq_false_iff_ne.2 (by omega)
          have b1' : decide (l.length = 0) = false := decide_eq_false h0
          by_cases h1 : 100 < l.length
          · have b2 : decide ((100 : Int) < (l.length : Int)) = true := decide_eq_true (by omega)
            have b2' : decide (100 < l.length) = true := decide_eq_true h1
            clear h1
            go_wp2_with (first
              | ((with_reducible refine hfew.mono ?_)
                 rintro e w4 ⟨rfl, hE4⟩
                 have HE4 := Lib.hid ((HE.out.trans HE1.out).trans hE4)
                 clear hfew hE4)
              | fail)
            go_ret
            exact ⟨rfl, HE4.out⟩
          · have b2 : decide ((100 : Int) < (l.length : Int)) = false := decide_eq_false (by omega)
            have b2' : decide (100 < l.length) = false := decide_eq_false h1
            obtain ⟨m, hm⟩ : ∃ m, n.tmod (l.length : Int) = m := ⟨_, rfl⟩
            have hm1 : -(l.length : Int) < m := by have := tmod_low n (show (0 : Int) < (l.length : Int) by omega); omega
            have hm2 : m < (l.length : Int) := by have := Int.tmod_lt_of_pos n (show (0 : Int) < (l.length : Int) by omega); omega
            have e1 : IntKind.i64.wrap m = m := IntWalk.i64_in _ (by omega)
            have e2 : IntKind.i64.wrap (m + (l.length : Int)) = m + (l.length : Int) := IntWalk.i64_in _ (by omega)
            have HM := Lib.hid (And.intro hm1 (And.intro hm2 (And.intro h0 h1)))
            have hz : ¬ (l.length : Int) = 0 := by omega
            obtain ⟨t, ht⟩ : ∃ t, decide (m < 0) = t := ⟨_, rfl⟩
            clear hm1 hm2 h1
            go_upto_if 69 with (first
              | ((with_reducible refine hfew.mono ?_)
                 rintro e w4 ⟨rfl, hE4⟩
                 have HBX := Lib.hid (HNW.out.ext hE4)
                 clear hfew hE4)
              | fail)
            go_cut [1] from 70 to 73 (fun u wx => ∃ p : Nat, p < l.length ∧ u = .int .i64 p ∧ wx = w4)
            case first =>
              cases t with
              | true =>
                have HP := Lib.hid (show ∃ p : Nat, p < l.length ∧ (m + (l.length : Int)) = p from ⟨(m + (l.length : Int)).toNat, by have := HM.out; have := of_decide_eq_true ht; omega, by have := HM.out; omega⟩)
                go_wp2_with fail
                go_meet
                obtain ⟨p, hp, hpe⟩ := HP.out
                exact ⟨p, hp, by rw [hpe], rfl⟩
              | false =>
                have HP := Lib.hid (show ∃ p : Nat, p < l.length ∧ m = p from ⟨m.toNat, by have := HM.out; have := of_decide_eq_false ht; omega, by have := HM.out; have := of_decide_eq_false ht; omega⟩)
                go_wp2_with fail
                go_meet
                obtain ⟨p, hp, hpe⟩ := HP.out
                exact ⟨p, hp, by rw [hpe], rfl⟩
            case rest =>
              obtain ⟨p, hp, rfl, rfl⟩ := hcut
              have HC := Lib.hid (show ∀ (k : Nat) (x : Tm), l[k]? = some x → checkT x = 0 ∧ okT x ∧ cntT x ≤ 1048576 from fun k x hx => ⟨HCK.out x (by rw [List.take_length]; exact List.mem_of_getElem? hx), ok_at HL.out.2.1 hx, by have := cnt_mem (List.mem_of_getElem? hx); have := HL.out.2.2.1; omega⟩)
              have HN := Lib.hid (And.intro hp (show l.length ≤ 100 by have := HM.out; omega))
              clear HCK HES HA HACT HNW HM ht hp e1 e2 b1 b1' b2 b2' hz hm c1 c1' hlt HE1 hj
              generalize wr.heap.size = bb at HBX ⊢
              go_wp2_with fail
              go_loopg [9] l.length (fun g i wq => ∃ (j : Nat) (words : Int), j + g = l.length ∧ i = .int .i64 j ∧ Hid (0 ≤ words ∧ words ≤ 65538 * (j : Int)) ∧ Hid (Bx W wq bb words 0 (l.take j)))
              case atStart => exact ⟨0, 0, by omega, rfl, Lib.hid ⟨by omega, by omega⟩, HBX⟩
              case round =>
                obtain ⟨j, words, hj, rfl, HW, HBX⟩ := hrel
                by_cases hlt : j < l.length
                · have c1 : decide ((j : Int) < (l.length : Int)) = true := decide_eq_true (by omega)
                  have c1' : decide (j < l.length) = true := decide_eq_true hlt
                  obtain ⟨x, hx⟩ : ∃ x, l[j]? = some x := ⟨l[j]'hlt, List.getElem?_eq_getElem hlt⟩
                  obtain ⟨b, o, so', cap', hso, h5, hrw⟩ := HL.out.1.elem2 hx
                  obtain ⟨q0, q1, q2, q3, q4⟩ := Cells5.ext (x := x) (so := so') (cap := cap') h5 HBX.out.old
                  subst hso
                  have hwr := words_range x
                  have hcall := bx_put HBX.out (TmV.mk' (so := so') (cap := cap') (hrw.ext HBX.out.old)) (fun k h => h) (by have := (HC.out j x hx).2.2; omega) (HC.out j x hx).2.1 (HC.out j x hx).1 (by rw [List.length_take]; have := HN.out.2; omega) HW.out.1 (by have := HW.out.2; have := HN.out.2; omega)
                  unfold elV at hcall
                  have e3 : IntKind.i64.wrap ((j : Int) + 1) = ((j + 1 : Nat) : Int) := by rw [IntWalk.i64_in _ (by have := HN.out.2; omega)]; rfl
                  have HX := Lib.hid (And.intro hx hwr)
                  clear hx hwr h5 hrw
                  go_wp2_with (first
                    | ((with_reducible refine hcall.mono ?_)
                       rintro e w5 ⟨rfl, hB5⟩
                       have HB5 := Lib.hid hB5
                       clear hcall hB5)
                    | fail)
                  go_roundg (l.length - j - 1)
                  case measure => omega
                  case rel =>
                    refine ⟨j + 1, words + (wordsT x + 2), by omega, rfl, Lib.hid ⟨by have := HW.out; have := HX.out.2; omega, by have := HW.out; have := HX.out.2; omega⟩, Lib.hid ?_⟩
                    rw [List.take_add_one, HX.out.1]
                    exact HB5.out
                · have c1 : decide ((j : Int) < (l.length : Int)) = false := decide_eq_false (by omega)
                  have c1' : decide (j < l.length) = false := decide_eq_false hlt
                  obtain rfl : j = l.length := by omega
                  have HBX := Lib.hid (show Bx W wr bb words 0 l by have := HBX.out; rw [List.take_length] at this; exact this)
                  have HWD := Lib.hid (show 0 ≤ words ∧ words ≤ 16777216 by have := HW.out; have := HN.out.2; omega)
                  clear c1 c1' hlt hj HW
                  go_wp2_with fail
                  go_loopg [10] (p + 1) (fun g i wq => ∃ j : Nat, j + g = p + 1 ∧ i = .int .i64 j ∧ Hid (Bx W wq bb words (j : Int) l))
                  case atStart => exact ⟨0, by omega, rfl, HBX⟩
                  case round =>
                    obtain ⟨j, hj, rfl, HBX⟩ := hrel
                    by_cases hlt : j ≤ p
                    · have c1 : decide ((j : Int) ≤ (p : Int)) = true := decide_eq_true (by omega)
                      have c1' : decide (j ≤ p) = true := decide_eq_true hlt
                      have hjl : j < l.length := by have := HN.out.1; omega
                      obtain ⟨x, hx⟩ : ∃ x, l[j]? = some x := ⟨l[j]'hjl, List.getElem?_eq_getElem hjl⟩
                      obtain ⟨b, o, so', cap', hso, h5, hrw⟩ := HL.out.1.elem2 hx
                      have H5 : Hid (Cells5 W b (o + j * 5) x so' cap') := Lib.hid h5
                      have HRW := Lib.hid hrw
                      have HCX := Lib.hid (HC.out j x hx)
                      subst hso
                      have hcall := bx_next HBX.out rfl hx (by have := HN.out.2; omega) (by have := HCX.out.2.2; omega)
                      have e3 : IntKind.i64.wrap ((j : Int) + 1) = ((j + 1 : Nat) : Int) := by rw [IntWalk.i64_in _ (by have := HN.out.2; omega)]; rfl
                      have s1 : (0 : Int) ≤ (j : Int) := by omega
                      have s2 : (j : Int) < (l.length : Int) := by omega
                      clear hx h5 hrw
                      go_upto_region 27 with (first
                        | ((with_reducible refine hcall.mono ?_)
                           rintro e w5 ⟨so5, cap5, rfl, hr5, hB5⟩
                           unfold elV
                           have hX := RBox.new w5 x.kind x.n x.f x.s so5 x.l.length cap5
                           have hEx := (Ext.refl w5).alloc (.cells #[.int .i64 x.kind, .int .i64 x.n, .float .f64 x.f, .string x.s, .slice so5 x.l.length cap5] 27)
                           obtain ⟨w6, hw6⟩ : ∃ w6, w5.alloc (.cells #[.int .i64 x.kind, .int .i64 x.n, .float .f64 x.f, .string x.s, .slice so5 x.l.length cap5] 27) = w6 := ⟨_, rfl⟩
                           rw [hw6] at hEx hX
                           have HB6 := Lib.hid (hB5.ext hEx)
                           have HR6 := Lib.hid (hr5.ext hEx)
                           have HX := Lib.hid hX
                           clear hcall hr5 hB5 hX hEx)
                        | fail)
                      clear hw6
                      obtain ⟨z0, z1, z2, z3, z4⟩ := HX.out.cells
                      obtain ⟨q0, q1, q2, q3, q4⟩ := H5.out.ext HB6.out.old
                      have htw := twin_any x true false _ _ _ _ w6.drew (TmV.mk' (so := so5) (cap := cap5) (HR6.out.ext (Ext.refl w6).drew)) (TmV.mk' (so := so') (cap := cap') (HRW.out.ext (HB6.out.old.drew))) (by have := HCX.out.2.2; omega)
                      unfold elV at htw
                      go_cut [107] from 97 to 106 (fun u wx => u = .bool false ∧ Hid (Ext w6 wx))
                      case first =>
                        go_region_law (first
                          | (go_simp; (with_reducible refine htw.mono ?_); rintro e w7 ⟨rfl, hE7⟩; have HE7 := Lib.hid ((Ext.refl w6).drew.trans hE7); clear hE7)
                          | fail)
                        all_goals go_wp2
                        all_goals go_meet
                        all_goals exact ⟨rfl, HE7⟩
                      case rest =>
                        obtain ⟨rfl, HE7⟩ := hcut
                        have HB7 := Lib.hid (HB6.out.ext HE7.out)
                        clear z0 z1 z2 z3 z4 q0 q1 q2 q3 q4 htw
                        go_wp2_with fail
                        go_roundg (p + 1 - j - 1)
                        case measure => omega
                        case rel => exact ⟨j + 1, by omega, rfl, HB7⟩
                    · have c1 : decide ((j : Int) ≤ (p : Int)) = false := decide_eq_false (by omega)
                      have c1' : decide (j ≤ p) = false := decide_eq_false hlt
                      obtain rfl : j = p + 1 := by omega
                      obtain ⟨x, hx⟩ : ∃ x, l[p]? = some x := ⟨l[p]'HN.out.1, List.getElem?_eq_getElem HN.out.1⟩
                      obtain ⟨b, o, so', cap', hso, h5, hrw⟩ := HL.out.1.elem2 hx
                      have H5 : Hid (Cells5 W b (o + p * 5) x so' cap') := Lib.hid h5
                      have HRW := Lib.hid hrw
                      have HCX := Lib.hid (HC.out p x hx)
                      subst hso
                      have hcall := bx_take HBX.out (p := p) (by omega) hx (by have := HN.out.2; omega) (by have := HCX.out.2.2; omega) HCX.out.2.1 HWD.out.1 HWD.out.2
                      have s1 : (0 : Int) ≤ (p : Int) := by omega
                      have s2 : (p : Int) < (l.length : Int) := by have := HN.out.1; omega
                      have e4 : IntKind.i64.wrap ((l.length : Int) - 1) = (l.length : Int) - 1 := IntWalk.i64_in _ (by have := HN.out.2; omega)
                      have hel : ((l.eraseIdx p).length : Int) = (l.length : Int) - 1 := by rw [List.length_eraseIdx_of_lt HN.out.1]; have := HN.out.1; omega
                      clear hx h5 hrw c1 c1' hlt hj
                      go_upto_region 30 with (first
                        | ((with_reducible refine hcall.mono ?_)
                           rintro e w5 ⟨so5, cap5, rfl, hr5, hB5⟩
                           unfold elV
                           have hX := RBox.new w5 x.kind x.n x.f x.s so5 x.l.length cap5
                           have hEx := (Ext.refl w5).alloc (.cells #[.int .i64 x.kind, .int .i64 x.n, .float .f64 x.f, .string x.s, .slice so5 x.l.length cap5] 27)
                           obtain ⟨w6, hw6⟩ : ∃ w6, w5.alloc (.cells #[.int .i64 x.kind, .int .i64 x.n, .float .f64 x.f, .string x.s, .slice so5 x.l.length cap5] 27) = w6 := ⟨_, rfl⟩
                           rw [hw6] at hEx hX
                           have HB6 := Lib.hid (hB5.ext hEx)
                           have HR6 := Lib.hid (hr5.ext hEx)
                           have HX := Lib.hid hX
                           clear hcall hr5 hB5 hX hEx)
                        | fail)
                      clear hw6
                      have htw := fun w' (h : Ext w6 w') => twin_any x true false _ _ _ _ w' (TmV.mk' (so := so5) (cap := cap5) (HR6.out.ext h)) (TmV.mk' (so := so') (cap := cap') (HRW.out.ext (HB6.out.old.trans h))) (by have := HCX.out.2.2; omega)
                      have hln := fun w' (h : Ext w6 w') => bx_len (HB6.out.ext h)
                      obtain ⟨z0, z1, z2, z3, z4⟩ := HX.out.exts
                      obtain ⟨q0, q1, q2, q3, q4⟩ := (H5.out.ext HB6.out.old).exts
                      have hE6 := Ext.refl w6
                      unfold elV at htw
                      rw [hel] at hln
                      go_region_held3 (fun w' => Ext w6 w') (first | assumption | (repeat (first | assumption | apply Ext.drew | apply Ext.drewN)))
                        (first
                          | (go_at_call 12; (with_reducible refine (htw _ ?_).mono ?_); assumption; rintro e w7 ⟨rfl, hE7⟩; have hW7 : Ext w6 w7 := Ext.trans (by assumption) hE7)
                          | (go_at_call 14; (with_reducible refine (hln _ ?_).mono ?_); assumption; rintro e w8 ⟨rfl, rfl⟩)
                          | fail)
                      have HB7 := Lib.hid (HB6.out.ext hW7)
                      have HG := Lib.hid (fun (k q : Nat) (y : Tm) (hq : q = if k ≤ p then k else k - 1) (hk : k ≠ p) (hy : l[k]? = some y) => erase_at (l := l) (p := p) hq hk hy)
                      clear z0 z1 z2 z3 z4 q0 q1 q2 q3 q4 htw hln hE6 hW7 hE7
                      go_wp2_with fail
                      go_loopg [14] l.length (fun g i wq => ∃ j : Nat, j + g = l.length ∧ i = .int .i64 j ∧ Hid (Bx W wq bb (words - (wordsT x + 2)) ((if j ≤ p then j else j - 1 : Nat) : Int) (l.eraseIdx p)))
                      case atStart => exact ⟨0, by omega, rfl, by rw [if_pos (by omega)]; exact HB7⟩
                      case round =>
                        obtain ⟨j, hj, rfl, HBX⟩ := hrel
                        by_cases hlt : j < l.length
                        · have c1 : decide ((j : Int) < (l.length : Int)) = true := decide_eq_true (by omega)
                          have c1' : decide (j < l.length) = true := decide_eq_true hlt
                          have e3 : IntKind.i64.wrap ((j : Int) + 1) = ((j + 1 : Nat) : Int) := by rw [IntWalk.i64_in _ (by have := HN.out.2; omega)]; rfl
                          by_cases hjp : j = p
                          · subst hjp
                            go_wp2_with fail
                            go_roundg (l.length - j - 1)
                            case measure => omega
                            case rel =>
                              refine ⟨j + 1, by omega, rfl, ?_⟩
                              have := HBX.out
                              rw [if_pos (by omega)] at this
                              rw [if_neg (by omega)]
                              exact Lib.hid this
                          · have c2 : ((j : Int) == (p : Int)) = false := beq_eq_false_iff_ne.2 (by omega)
                            have c2' : decide (j = p) = false := decide_eq_false hjp
                            obtain ⟨y, hy⟩ : ∃ y, l[j]? = some y := ⟨l[j]'hlt, List.getElem?_eq_getElem hlt⟩
                            obtain ⟨b, o, so', cap', hso, h5, hrw⟩ := HL.out.1.elem2 hy
                            have H5 : Hid (Cells5 W b (o + j * 5) y so' cap') := Lib.hid h5
                            have HRW := Lib.hid hrw
                            have HCX := Lib.hid (HC.out j y hy)
                            have hcall := bx_next HBX.out rfl (HG.out j _ y rfl hjp hy) (by rw [List.length_eraseIdx_of_lt HN.out.1]; have := HN.out.2; omega) (by have := HCX.out.2.2; omega)
                            have s1 : (0 : Int) ≤ (j : Int) := by omega
                            have s2 : (j : Int) < (l.length : Int) := by omega
                            have HP := Lib.hid (show (((if j ≤ p then j else j - 1 : Nat) : Int) + 1) = ((if j + 1 ≤ p then j + 1 else j + 1 - 1 : Nat) : Int) by split <;> split <;> omega)
                            injection hso with hso
                            injection hso with eb eo _
                            subst eb eo
                            clear hy h5 hrw hjp
                            go_upto_region 37 with (first
                              | ((with_reducible refine hcall.mono ?_)
                                 rintro e w5 ⟨so5, cap5, rfl, hr5, hB5⟩
                                 unfold elV
                                 have hX := RBox.new w5 y.kind y.n y.f y.s so5 y.l.length cap5
                                 have hEx := (Ext.refl w5).alloc (.cells #[.int .i64 y.kind, .int .i64 y.n, .float .f64 y.f, .string y.s, .slice so5 y.l.length cap5] 27)
                                 obtain ⟨w6, hw6⟩ : ∃ w6, w5.alloc (.cells #[.int .i64 y.kind, .int .i64 y.n, .float .f64 y.f, .string y.s, .slice so5 y.l.length cap5] 27) = w6 := ⟨_, rfl⟩
                                 rw [hw6] at hEx hX
                                 have HB6 := Lib.hid (hB5.ext hEx)
                                 have HR6 := Lib.hid (hr5.ext hEx)
                                 have HX := Lib.hid hX
                                 clear hcall hr5 hB5 hX hEx)
                              | fail)
                            clear hw6
                            have htw := fun w' (h : Ext w6 w') => twin_any y true false _ _ _ _ w' (TmV.mk' (so := so5) (cap := cap5) (HR6.out.ext h)) (TmV.mk' (so := so') (cap := cap') (HRW.out.ext (HB6.out.old.trans h))) (by have := HCX.out.2.2; omega)
                            obtain ⟨z0, z1, z2, z3, z4⟩ := HX.out.exts
                            obtain ⟨q0, q1, q2, q3, q4⟩ := (H5.out.ext HB6.out.old).exts
                            have hE6 := Ext.refl w6
                            unfold elV at htw
                            go_region_held3 (fun w' => Ext w6 w') (first | assumption | (repeat (first | assumption | apply Ext.drew | apply Ext.drewN)))
                              (first
                                | (go_at_call 12; (with_reducible refine (htw _ ?_).mono ?_); assumption; rintro e w7 ⟨rfl, hE7⟩; have hW7 : Ext w6 w7 := Ext.trans (by assumption) hE7)
                                | fail)
                            have HB7 := Lib.hid (HB6.out.ext hW7)
                            clear z0 z1 z2 z3 z4 q0 q1 q2 q3 q4 htw hE6 hW7 hE7
                            go_wp2_with fail
                            go_roundg (l.length - j - 1)
                            case measure => omega
                            case rel => exact ⟨j + 1, by omega, rfl, by rw [← HP.out]; exact HB7⟩
                        · have c1 : decide ((j : Int) < (l.length : Int)) = false := decide_eq_false (by omega)
                          have c1' : decide (j < l.length) = false := decide_eq_false hlt
                          obtain rfl : j = l.length := by omega
                          have hcall := bx_none HBX.out (by rw [List.length_eraseIdx_of_lt HN.out.1, if_neg (by have := HN.out.1; omega)])
                          have HBX2 := HBX
                          go_wp2_with (first
                            | ((with_reducible refine hcall.mono ?_)
                               rintro e w5 ⟨rfl, hE5⟩
                               have HE5 := Lib.hid (HBX2.out.old.trans hE5)
                               clear hcall hE5)
                            | fail)
                          go_ret
                          exact ⟨rfl, HE5.out.alloc _⟩

end Go.Proofs.Yteiognkbkpidiaa
