/- The document's all, Check, Right, Words. -/
import Derived.Test.YtdimmomjildpcaaTmMeas
namespace Go.Proofs.Ytdimmomjildpcaa
open Go.RowKit
attribute [local irreducible] Ext

theorem allL_drop {l : List Tm} {j : Nat} {x : Tm} (hx : l[j]? = some x) : allL (l.drop j) = (allT x && allL (l.drop (j + 1))) := by
  have hj := (List.getElem?_eq_some_iff.1 hx).1
  have e : l.drop j = x :: l.drop (j + 1) := by
    rw [List.drop_eq_getElem_cons hj]
    congr 1
    exact (List.getElem?_eq_some_iff.1 hx).2
  rw [e]
  rfl

set_option maxRecDepth 100000 in
set_option maxHeartbeats 2000000 in
theorem all_any (t : Tm) : ∀ (own : Bool) (G : Nat → Prop) (v : Value) (w : World), TmV w own G v t → cntT t ≤ 100000000 →
    Calls Try.prog 35 #[v] w fun e w' => e = .returned (.bool (allT t)) ∧ Ext w w' := by
  induction t using Tm.ind with
  | h t ih =>
    obtain ⟨k, n, f, s, L⟩ := t
    intro own G v w hv hcnt
    obtain ⟨so, cap, rfl, hrow⟩ := hv.parts
    simp only [Tm.l] at ih
    simp only [cntT] at hcnt
    simp only [allT, fieldsT, Tm.kind, Tm.n, Tm.f, Tm.s, Tm.l]
    clear hv
    have hll := len_cnt L
    have hfd := fun w => fields_any k n f s so L.length cap w
    obtain ⟨q, hq⟩ : ∃ q, fieldsV k n f s L.length = q := ⟨_, rfl⟩
    simp only [hq] at hfd ⊢
    cases q with
    | false =>
      clear hq ih hrow hcnt hll
      go_enter Try.func35, Try.ntmps35
      go_wp2_with (go_at_call 39; (with_reducible refine (hfd _).mono ?_); rintro e wa ⟨rfl, hEa⟩)
      go_ret
      exact ⟨rfl, ((Ext.refl w).alloc _).trans hEa⟩
    | true =>
      rw [Bool.true_and]
      obtain ⟨F, hF⟩ : ∃ F, allL L = F := ⟨_, rfl⟩
      rw [hF]
      have HIH := Lib.hid ih
      have HC := Lib.hid (And.intro hcnt hll)
      have HE := Lib.hid ((Ext.refl w).alloc (.cells #[.int .i64 k, .int .i64 n, .float .f64 f, .string s, .slice so L.length cap] 25))
      have HR := Lib.hid (hrow.ext HE.out)
      have HF := Lib.hid hF
      have HB := Lib.hid (RBox.new w k n f s so L.length cap)
      clear ih hrow hF hcnt hll hq
      go_enter Try.func35, Try.ntmps35
      go_upto_region 1 with (fail)
      obtain ⟨w1, hw1⟩ : ∃ w1, w.alloc (.cells #[.int .i64 k, .int .i64 n, .float .f64 f, .string s, .slice so L.length cap] 25) = w1 := ⟨_, rfl⟩
      rw [hw1] at HB HR HE ⊢
      clear hw1
      obtain ⟨z0, z1, z2, z3, z4⟩ := HB.out.cells
      go_wp2_with fail
      refine (hfd w1).mono ?_
      rintro e wa ⟨rfl, hEa⟩
      have HEa := Lib.hid hEa
      clear hEa z0 z1 z2 z3 z4 hfd
      go_wp2_with fail
      go_loopg [3] L.length (fun g i wr => Hid (Ext w1 wr) ∧ ∃ (j : Nat), j + g = L.length ∧ i = .int .i64 j ∧ Hid (allL (L.drop j) = F))
      case atStart => exact ⟨HEa, 0, by omega, rfl, HF⟩
      case round =>
        clear HEa
        obtain ⟨HEr, j, hj, rfl, HY⟩ := hrel
        obtain ⟨_, _, _, _, hc4⟩ := (HB.out.ext HEr.out).cells
        by_cases hlt : j < L.length
        · have c1 : decide ((j : Int) < (L.length : Int)) = true := decide_eq_true (by omega)
          have c1' : decide (j < L.length) = true := decide_eq_true hlt
          obtain ⟨x, hx⟩ : ∃ x, L[j]? = some x := ⟨L[j]'hlt, List.getElem?_eq_getElem hlt⟩
          obtain ⟨b, oo, so', cap', rfl, q0, q1, q2, q3, q4, htm⟩ := (HR.out.ext HEr.out).elem hx
          have hmem := List.mem_of_getElem? hx
          have hcall := HIH.out x hmem own G _ wr htm (by have := HC.out; have := cnt_mem hmem; omega)
          obtain ⟨r, hr⟩ : ∃ r, allT x = r := ⟨_, rfl⟩
          have hdr := allL_drop hx
          rw [hr] at hcall hdr
          unfold elV at hcall
          have e2 : IntKind.i64.wrap ((j : Int) + 1) = ((j + 1 : Nat) : Int) := by rw [IntWalk.i64_in _ (by have := HC.out; omega)]; rfl
          cases r with
          | false =>
            have HRES := Lib.hid (show F = false by rw [← HY.out, hdr]; rfl)
            clear htm hx hr hdr hmem
            go_wp2_with fail
            refine hcall.mono ?_
            rintro e w2 ⟨rfl, hE2⟩
            have HE2 := Lib.hid (HEr.out.trans hE2)
            clear hcall hE2 q0 q1 q2 q3 q4 hc4
            go_wp2_with fail
            go_ret
            exact ⟨by rw [HRES.out]; rfl, HE.out.trans HE2.out⟩
          | true =>
            have HN := Lib.hid (show allL (L.drop (j + 1)) = F by rw [← HY.out, hdr]; rfl)
            clear htm hx hr hdr hmem
            go_wp2_with fail
            refine hcall.mono ?_
            rintro e w2 ⟨rfl, hE2⟩
            have HE2 := Lib.hid (HEr.out.trans hE2)
            clear hcall hE2 q0 q1 q2 q3 q4 hc4
            go_wp2_with fail
            go_roundg (L.length - j - 1)
            case measure => omega
            case rel => exact ⟨HE2, j + 1, by omega, rfl, HN⟩
        · have c1 : decide ((j : Int) < (L.length : Int)) = false := decide_eq_false (by omega)
          have c1' : decide (j < L.length) = false := decide_eq_false hlt
          have hres : F = true := by
            have := HY.out
            rw [List.drop_eq_nil_of_le (by omega)] at this
            exact this.symm
          have HRES := Lib.hid hres
          clear hres
          go_wp2_with fail
          go_ret
          exact ⟨by rw [HRES.out]; rfl, HE.out.trans HEr.out⟩

set_option maxRecDepth 100000 in
set_option maxHeartbeats 1000000 in
theorem rcheck_any {t : Tm} {own : Bool} {G : Nat → Prop} {v : Value} (w : World) (hv : TmV w own G v t) (hc : cntT t ≤ 100000000) :
    Calls Try.prog 29 #[v] w fun e w' => e = .returned (.int .i64 (checkT t)) ∧ Ext w w' := by
  have HM := Lib.hid (fun w (hv : TmV w own G v t) => meas_any t own G v 200 65536 w hv hc (by decide) (by decide) (by decide) (by decide))
  have HA := Lib.hid (fun w (hv : TmV w own G v t) => all_any t own G v w hv hc)
  obtain ⟨k, n, f, s, L⟩ := t
  obtain ⟨so, cap, rfl, hrow⟩ := hv.parts
  obtain ⟨mm, hmm⟩ : ∃ mm, measT (.mk k n f s L) 200 65536 = mm := ⟨_, rfl⟩
  obtain ⟨aa, haa⟩ : ∃ aa, allT (.mk k n f s L) = aa := ⟨_, rfl⟩
  unfold checkT
  rw [hmm, haa]
  rw [hmm] at HM
  rw [haa] at HA
  clear hv hc hmm haa
  have HE := Lib.hid ((Ext.refl w).alloc (.cells #[.int .i64 k, .int .i64 n, .float .f64 f, .string s, .slice so L.length cap] 25))
  have HR := Lib.hid (hrow.ext HE.out)
  have HB := Lib.hid (RBox.new w k n f s so L.length cap)
  clear hrow
  by_cases h1 : mm < 0
  · have b1 : decide (mm < 0) = true := decide_eq_true h1
    rw [if_pos h1]
    clear h1
    go_enter Try.func29, Try.ntmps29
    go_wp2_with (go_at_call 34; (with_reducible refine (HM.out _ (TmV.of_parts HR.out)).mono ?_); rintro e wa ⟨rfl, hEa⟩; have HEa := Lib.hid hEa; clear hEa)
    go_ret
    exact ⟨rfl, HE.out.trans HEa.out⟩
  · have b1 : decide (mm < 0) = false := decide_eq_false h1
    rw [if_neg h1]
    clear h1
    cases aa
    all_goals
      go_enter Try.func29, Try.ntmps29
      go_wp2_with (first
        | (go_at_call 34; (with_reducible refine (HM.out _ (TmV.of_parts HR.out)).mono ?_); rintro e wa ⟨rfl, hEa⟩; have HEa := Lib.hid hEa; obtain ⟨y0, y1, y2, y3, y4⟩ := (HB.out.ext hEa).cells; clear hEa)
        | (go_at_call 35; (with_reducible refine (HA.out _ (TmV.of_parts (HR.out.ext HEa.out))).mono ?_); rintro e wb ⟨rfl, hEb⟩; have HEb := Lib.hid hEb; clear hEb)
        | fail)
      go_ret
      exact ⟨rfl, (HE.out.trans HEa.out).trans HEb.out⟩

/-- Is a term right? -/
def rightT (t : Tm) : Bool := decide (checkT t = 0)

set_option maxRecDepth 100000 in
theorem right_any {t : Tm} {own : Bool} {G : Nat → Prop} {v : Value} (w : World) (hv : TmV w own G v t) (hc : cntT t ≤ 100000000) :
    Calls Try.prog 13 #[v] w fun e w' => e = .returned (.bool (rightT t)) ∧ Ext w w' := by
  have HK := Lib.hid (fun w (hv : TmV w own G v t) => rcheck_any w hv hc)
  obtain ⟨k, n, f, s, L⟩ := t
  obtain ⟨so, cap, rfl, hrow⟩ := hv.parts
  obtain ⟨c, hcc⟩ : ∃ c, checkT (.mk k n f s L) = c := ⟨_, rfl⟩
  unfold rightT
  rw [hcc]
  rw [hcc] at HK
  have e0 : (c == 0) = decide (c = 0) := by rw [Bool.eq_iff_iff]; simp
  clear hv hc hcc
  have HE := Lib.hid ((Ext.refl w).alloc (.cells #[.int .i64 k, .int .i64 n, .float .f64 f, .string s, .slice so L.length cap] 25))
  have HR := Lib.hid (hrow.ext HE.out)
  clear hrow
  go_enter Try.func13, Try.ntmps13
  go_wp2_with (go_at_call 29; (with_reducible refine (HK.out _ (TmV.of_parts HR.out)).mono ?_); rintro e wa ⟨rfl, hEa⟩; have HEa := Lib.hid hEa; clear hEa)
  go_ret
  exact ⟨rfl, HE.out.trans HEa.out⟩

/-- How many words a term has. -/
def wordsT (t : Tm) : Int := if checkT t = 0 then measT t 200 65536 else 0

end Go.Proofs.Ytdimmomjildpcaa
