/- Acts: a row of numbers and terms; few. -/
import Derived.Test.YteiognkbkpidiaaInKnown
import Derived.Test.YteiognkbkpidiaaArgTm
namespace Go.Proofs.Yteiognkbkpidiaa
open Go.RowKit
attribute [local irreducible] Ext
attribute [local go_sem] run_store_float

/-- Acts that lie in memory. -/
def ActsAt (w : World) (own : Bool) (G : Nat → Prop) (l : List (Int × Tm)) (so : Option Addr) : Prop :=
  ∀ (k : Nat) (x : Int × Tm), l[k]? = some x → ∃ b o so' cap', so = some ⟨b, o, none⟩ ∧ w.cell? ⟨b, o + k * 6, none⟩ = some (.int .i64 x.1) ∧ w.cell? ⟨b, o + k * 6 + 1, none⟩ = some (.int .i64 x.2.kind) ∧ w.cell? ⟨b, o + k * 6 + 1 + 1, none⟩ = some (.int .i64 x.2.n) ∧ w.cell? ⟨b, o + k * 6 + 1 + 2, none⟩ = some (.float .f64 x.2.f) ∧
    w.cell? ⟨b, o + k * 6 + 1 + 3, none⟩ = some (.string x.2.s) ∧ w.cell? ⟨b, o + k * 6 + 1 + 4, none⟩ = some (.slice so' x.2.l.length cap') ∧ TmV w own G (elV x.2 so' cap') x.2

theorem ActsAt.ext {w w' : World} {own : Bool} {G : Nat → Prop} {l : List (Int × Tm)} {so : Option Addr} (h : ActsAt w own G l so) (hE : Ext w w') : ActsAt w' own G l so := by
  intro k x hx
  obtain ⟨b, o, so', cap', e, c0, c1, c2, c3, c4, c5, hv⟩ := h k x hx
  exact ⟨b, o, so', cap', e, hE.cell c0, hE.cell c1, hE.cell c2, hE.cell c3, hE.cell c4, hE.cell c5, hv.ext hE⟩

def fewB (l : List (Int × Tm)) : Bool := decide ((l.length : Int) ≤ 400) && decide (0 ≤ fewL (l.map Prod.snd) 60000 1001)

set_option maxRecDepth 100000 in
set_option maxHeartbeats 2000000 in
theorem few_acts (l : List (Int × Tm)) (own : Bool) (G : Nat → Prop) (so : Option Addr) (cap : Nat) (w : World) (h : ActsAt w own G l so) (hl : l.length ≤ 100000000) :
    Calls Try.prog 9 #[.slice so l.length cap] w fun e w' => e = .returned (.bool (fewB l)) ∧ Ext w w' := by
  obtain ⟨F, hF⟩ : ∃ F, fewL (l.map Prod.snd) 60000 1001 = F := ⟨_, rfl⟩
  have HF := Lib.hid (show fewB l = (decide ((l.length : Int) ≤ 400) && decide (0 ≤ F)) by unfold fewB; rw [hF])
  have H := Lib.hid h
  have HL := Lib.hid hl
  have H0 := Lib.hid (show fewL ((l.map Prod.snd).drop 0) 60000 1001 = F ∧ (-1 : Int) ≤ 60000 ∧ (60000 : Int) ≤ 60000 from ⟨hF, by decide, by decide⟩)
  clear h hF hl
  generalize fewB l = A at HF ⊢
  go_enter Try.func9, Try.ntmps9
  go_wp2_with fail
  go_loopg [3, 4] l.length (fun g y i wr => ∃ (j : Nat) (z : Int), j + g = l.length ∧ y = .int .i64 z ∧ i = .int .i64 j ∧ Hid (fewL ((l.map Prod.snd).drop j) z 1001 = F ∧ -1 ≤ z ∧ z ≤ 60000) ∧ Hid (Ext w wr))
  case atStart => exact ⟨0, 60000, by omega, rfl, rfl, H0, Lib.hid (Ext.refl w)⟩
  case round =>
    obtain ⟨j, y, hj, rfl, rfl, HY, HE⟩ := hrel
    have hjl : j ≤ 100000000 := by have := HL.out; omega
    by_cases hlt : j < l.length
    · have c1 : decide ((j : Int) < (l.length : Int)) = true := decide_eq_true (by omega)
      have c1' : decide (j < l.length) = true := decide_eq_true hlt
      by_cases hy : y < 0
      · have c2 : decide (0 ≤ y) = false := decide_eq_false (by omega)
        have hres : y = F := by rw [← HY.out.1, fewL_stop _ _ hy]
        have HRES := Lib.hid (show A = false by rw [HF.out, ← hres, c2, Bool.and_false])
        obtain ⟨a1, ha1⟩ : ∃ a, decide ((l.length : Int) ≤ 400) = a := ⟨_, rfl⟩
        clear hres
        go_wp2_with fail
        all_goals go_ret
        all_goals exact ⟨by rw [HRES.out]; rfl, HE.out⟩
      · have c2 : decide (0 ≤ y) = true := decide_eq_true (by omega)
        obtain ⟨⟨op, x⟩, hx⟩ : ∃ x, l[j]? = some x := ⟨l[j]'hlt, List.getElem?_eq_getElem hlt⟩
        obtain ⟨b, o, so', cap', rfl, q0, q1, q2, q3, q4, q5, htm⟩ := (H.out.ext HE.out) j _ hx
        have hx' : (l.map Prod.snd)[j]? = some x := by rw [List.getElem?_map, hx]; rfl
        have hcall := few_any x own G _ y 1000 wr htm HY.out.2.1 (by have := HY.out.2.2; omega) (by decide) (by decide)
        obtain ⟨r, hr⟩ : ∃ r, fewT x y 1000 = r := ⟨_, rfl⟩
        have hrr := few_range x y 1000 HY.out.2.1
        rw [hr] at hcall hrr
        unfold elV at hcall
        have HN := Lib.hid (show fewL ((l.map Prod.snd).drop (j + 1)) r 1001 = F by
          have hd := fewL_drop hx' 1001 hy
          rw [show (1001 : Int) - 1 = 1000 from rfl] at hd
          rw [← hr, ← hd]
          exact HY.out.1)
        have HRR := Lib.hid (And.intro hrr.1 (show r ≤ 60000 by have := HY.out.2.2; omega))
        have e2 : IntKind.i64.wrap ((j : Int) + 1) = ((j + 1 : Nat) : Int) := by rw [IntWalk.i64_in _ (by omega)]; rfl
        clear htm hx hx' hr hrr
        go_wp2_with (first
          | ((with_reducible refine hcall.mono ?_)
             rintro e w2 ⟨rfl, hE2⟩
             have HE2 := Lib.hid (HE.out.trans hE2)
             clear hcall hE2 q0 q1 q2 q3 q4 q5)
          | fail)
        go_roundg (l.length - j - 1)
        case measure => omega
        case rel => exact ⟨j + 1, r, by omega, rfl, rfl, Lib.hid ⟨HN.out, HRR.out⟩, HE2⟩
    · have c1 : decide ((j : Int) < (l.length : Int)) = false := decide_eq_false (by omega)
      have c1' : decide (j < l.length) = false := decide_eq_false hlt
      have hres : y = F := by
        have := HY.out.1
        rw [List.drop_eq_nil_of_le (by rw [List.length_map]; omega)] at this
        exact this
      obtain ⟨a2, ha2⟩ : ∃ a, decide (0 ≤ y) = a := ⟨_, rfl⟩
      rw [← hres, ha2] at HF
      clear hres
      cases ha1 : decide ((l.length : Int) ≤ 400) with
      | true =>
        rw [ha1, Bool.true_and] at HF
        go_wp2_with fail
        go_ret
        exact ⟨by rw [HF.out]; rfl, HE.out⟩
      | false =>
        rw [ha1, Bool.false_and] at HF
        go_wp2_with fail
        go_ret
        exact ⟨by rw [HF.out]; rfl, HE.out⟩

end Go.Proofs.Yteiognkbkpidiaa
