/- NumNear: no float is nearer to a whole number than the one that is told: the law's walk. -/
import Derived.Test.YtlpifchimnnfdaaDoorNmNearWalk
namespace Go.Proofs.YtlpifchimnnfdaaDoor
open Go.RowKit Ieee
attribute [local irreducible] Ext
attribute [local go_sem] run_store_float

theorem size1N_any {f : Nat} (hf : fin f) (w : World) : Calls Tryd.prog 38 #[.float .f64 f] w fun e w' => (∃ g, e = .returned (.float .f64 g) ∧ fin g ∧ fval g = (if fval f < 0 then -(fval f) else fval f)) ∧ w = w' := by
  have ho := ord_of hf val0.1
  rw [val0.2] at ho
  by_cases h : fval f < 0
  · rw [if_pos h] at ho ⊢
    have hs := sub_fin val0.1 hf
    have hr : Rep (fval 0 - fval f).natAbs := by
      rw [val0.2, Int.zero_sub, Int.natAbs_neg]
      exact rep_fval hf
    obtain ⟨q1, q2, q3, _⟩ := fval_fput hr (sgn 0 && !sgn f)
    rw [val0.2, Int.zero_sub] at q1 q2 q3 hs
    have hrun := fun w => run_float_arith (P := Tryd.prog) w .sub 24 .f64 0 f _ hs
    generalize fput (-fval f) (sgn 0 && !sgn f) = g at q1 q3 hrun
    have HQ := Lib.hid (And.intro q3 q1)
    clear h hs hr q1 q2 q3 hf
    go_enter Tryd.func38, Tryd.ntmps38
    go_wp2_with fail
    go_ret
    exact ⟨⟨g, rfl, HQ.out.1, HQ.out.2⟩, rfl⟩
  · rw [if_neg h] at ho ⊢
    have o1 : (FloatKind.f64.format.order f 0 == some .lt) = false := by
      rw [ho]
      split <;> rfl
    have HF := Lib.hid hf
    clear ho h hf
    go_enter Tryd.func38, Tryd.ntmps38
    go_wp2_with fail
    go_ret
    exact ⟨⟨f, rfl, HF.out, rfl⟩, rfl⟩

theorem size_lt53 {g : Nat} {F : Int} (hg : fin g) (hv : fval g = (if F < 0 then -F else F)) (h : F.natAbs < 9007199254740992 * unit) : FloatKind.f64.format.order g 4845873199050653696 = some .lt := by
  rw [ord_of hg val53.1, val53.2, if_pos]
  rw [hv]
  have e : ((9007199254740992 * unit : Nat) : Int) = 9007199254740992 * (unit : Int) := by rw [Int.natCast_mul]; rfl
  rw [← e]
  split <;> omega

theorem size_ge53 {g : Nat} {F : Int} (hg : fin g) (hv : fval g = (if F < 0 then -F else F)) (h : 9007199254740992 * unit ≤ F.natAbs) : (FloatKind.f64.format.order g 4845873199050653696 == some .lt) = false := by
  have e : ((9007199254740992 * unit : Nat) : Int) = 9007199254740992 * (unit : Int) := by rw [Int.natCast_mul]; rfl
  rw [ord_of hg val53.1, val53.2, ← e, if_neg]
  · split <;> rfl
  · rw [hv]
    split <;> omega

set_option maxRecDepth 100000 in
set_option maxHeartbeats 8000000 in
theorem numNear_any (n : Int) (hn : -9223372036854775808 ≤ n ∧ n ≤ 9223372036854775807) (w : World) (ht : Tab4 w) :
    Calls Tryd.prog 9 #[.int .i64 n] w fun e w' => e = .returned (.bool true) ∧ Ext w w' := by
  have HK := Lib.hid (known_any w ht)
  have hfin := near_fin (n := n) (by omega)
  have h64 := nearF_lt n
  have hsub := sub_fin0 (finF_fin.2 hfin) 24
  have z0 : (FloatKind.f64.format.order 0 0 != some .eq) = false := by decide
  have hp1 := fun w => pnear_any n w
  have hp0 := fun w => pnear_any 0 w
  rw [nz] at hp0
  have rb0 : ∀ w, (callFunc 32 #[.float .f64 0]).run Tryd.prog w = .ok (.value (.int .u64 0)) w := run_bits 0
  have o62 := ord_of hfin val62.1
  have om62 := ord_of hfin valm62.1
  rw [val62.2] at o62
  rw [valm62.2] at om62
  have hs1 := fun w => size1N_any hfin w
  have hpI := unitI_pos
  have e62 : ((4611686018427387904 * unit : Nat) : Int) = 4611686018427387904 * (unit : Int) := by rw [Int.natCast_mul]; rfl
  have em62 : -4611686018427387904 * (unit : Int) = -((4611686018427387904 * unit : Nat) : Int) := by rw [e62, Int.neg_mul]
  by_cases hbig : 4611686018427387904 * unit ≤ (fval (nearF n)).natAbs
  · generalize fval (nearF n) = F at o62 om62 hbig
    generalize nearF n = x at hsub hp1 o62 om62
    rw [← e62] at o62
    rw [em62] at om62
    have HP1 := Lib.hid hp1
    have HP0 := Lib.hid hp0
    by_cases hpos : 0 ≤ F
    · have o1 : (FloatKind.f64.format.order x 4886405595696988160 == some .gt || FloatKind.f64.format.order x 4886405595696988160 == some .eq) = true := by
        rw [o62, if_neg (by omega)]
        split <;> rfl
      clear hn ht hfin h64 hp1 hp0 o62 om62 hs1 hpI e62 em62 hbig hpos
      go_enter Tryd.func9, Tryd.ntmps9
      go_wp2_with (first
        | (go_at_call 17; (with_reducible refine HK.out.mono ?_); rintro e w1 ⟨rfl, hE1⟩; have HX := Lib.hid hE1; clear hE1)
        | (go_at_call 36; (with_reducible first | refine (HP1.out _).mono ?_ | refine (HP0.out _).mono ?_); rintro e wa ⟨rfl, rfl⟩)
        | fail)
      all_goals go_ret
      all_goals exact ⟨rfl, HX.out⟩
    · have o1 : FloatKind.f64.format.order x 4886405595696988160 = some .lt := by rw [o62, if_pos (by omega)]
      have o2 : (FloatKind.f64.format.order x 14109777632551763968 == some .lt || FloatKind.f64.format.order x 14109777632551763968 == some .eq) = true := by
        rw [om62]
        by_cases h : F < -((4611686018427387904 * unit : Nat) : Int)
        · rw [if_pos h]; rfl
        · rw [if_neg h, if_neg (by omega)]; rfl
      clear hn ht hfin h64 hp1 hp0 o62 om62 hs1 hpI e62 em62 hbig hpos
      go_enter Tryd.func9, Tryd.ntmps9
      go_wp2_with (first
        | (go_at_call 17; (with_reducible refine HK.out.mono ?_); rintro e w1 ⟨rfl, hE1⟩; have HX := Lib.hid hE1; clear hE1)
        | (go_at_call 36; (with_reducible first | refine (HP1.out _).mono ?_ | refine (HP0.out _).mono ?_); rintro e wa ⟨rfl, rfl⟩)
        | fail)
      all_goals go_ret
      all_goals exact ⟨rfl, HX.out⟩
  · have o1 : FloatKind.f64.format.order (nearF n) 4886405595696988160 = some .lt := by
      rw [o62, ← e62, if_pos (by omega)]
    have o2 : FloatKind.f64.format.order (nearF n) 14109777632551763968 = some .gt := by
      rw [om62, em62, if_neg (by omega), if_pos (by omega)]
    have k63 : 4611686018427387904 * (unit : Int) < 9223372036854775808 * (unit : Int) := mul_unit_lt.2 (by decide)
    have km63 : -9223372036854775808 * (unit : Int) < -4611686018427387904 * (unit : Int) := mul_unit_lt.2 (by decide)
    have hup := fun w => next_up hfin h64 (by rw [← e62] at k63; omega) w
    have hdn := fun w => next_down hfin h64 (by rw [em62] at km63; omega) w
    by_cases h53 : n.natAbs < 9007199254740992
    · obtain ⟨b1, b2⟩ := nearI (n := n) (by omega)
      have hv : fval (nearF n) = n * (unit : Int) := b2
      have htr : ftrunc (nearF n) = n := trunc_whole hv
      have hcv := run_whole (finF_fin.2 hfin) (by rw [htr]; exact hn)
      rw [htr] at hcv
      have hlt := fun (g : Nat) (hg : fin g) (hgv : fval g = (if fval (nearF n) < 0 then -(fval (nearF n)) else fval (nearF n))) => size_lt53 hg hgv (by rw [hv, Int.natAbs_mul, Int.natAbs_natCast]; exact Nat.mul_lt_mul_of_pos_right h53 unit_pos)
      have hsz := fun w => sizeL_any 0 (by decide) w
      have e0 : IntKind.i64.wrap (n - n) = 0 := by rw [Int.sub_self]; decide
      have e00 : n - n = 0 := Int.sub_self n
      have enn : (n == n) = true := by simp
      have HLT := Lib.hid hlt
      generalize fval (nearF n) = F at hs1 HLT
      clear o62 om62
      have hnx : True := trivial
      have HUP := Lib.hid (fun w => (hup w).mono (R' := fun e w' => (∃ g, e = .returned (.float .f64 g)) ∧ w = w') (fun _ _ ⟨⟨g, h, _⟩, h'⟩ => ⟨⟨g, h⟩, h'⟩))
      have HDN := Lib.hid (fun w => (hdn w).mono (R' := fun e w' => (∃ g, e = .returned (.float .f64 g)) ∧ w = w') (fun _ _ ⟨⟨g, h, _⟩, h'⟩ => ⟨⟨g, h⟩, h'⟩))
      generalize nearF n = x at hsub hp1 o1 o2 hs1 HUP HDN hcv
      have HP1 := Lib.hid hp1
      have HP0 := Lib.hid hp0
      have HS1 := Lib.hid hs1
      have HSZ := Lib.hid hsz
      clear hn ht hfin h64 hp1 hp0 hs1 hpI e62 em62 hbig k63 km63 hup hdn h53 b1 b2 hv htr hlt hsz hnx
      go_enter Tryd.func9, Tryd.ntmps9
      go_wp2_with (first
        | (go_at_call 17; (with_reducible refine HK.out.mono ?_); rintro e w1 ⟨rfl, hE1⟩; have HX := Lib.hid hE1; clear hE1)
        | (go_at_call 36; (with_reducible first | refine (HP1.out _).mono ?_ | refine (HP0.out _).mono ?_); rintro e wa ⟨rfl, rfl⟩)
        | (go_at_call 30; (with_reducible refine (HSZ.out _).mono ?_); rintro e wa ⟨rfl, rfl⟩)
        | (go_at_call 37; (with_reducible first | refine (HUP.out _).mono ?_ | refine (HDN.out _).mono ?_); rintro e wa ⟨⟨g, rfl⟩, rfl⟩)
        | (go_at_call 38; (with_reducible refine (HS1.out _).mono ?_); rintro e wa ⟨⟨g9, rfl, hg1, hg2⟩, rfl⟩; have o9 := HLT.out _ hg1 hg2; clear hg1 hg2)
        | fail)
      all_goals go_ret
      all_goals exact ⟨by simp, HX.out⟩
    · obtain ⟨hbig2, T, Tp, Tm, tv, pf, pv, mf, mv, p64, c1, c2, bT, bp, bm, bn, sT, sp, sm⟩ := near_next (n := n) (by omega) (by omega) (Nat.lt_of_not_le hbig)
      have hge := fun (g : Nat) (hg : fin g) (hgv : fval g = (if fval (nearF n) < 0 then -(fval (nearF n)) else fval (nearF n))) => size_ge53 hg hgv hbig2
      have HGE := Lib.hid hge
      have hcT := run_whole (finF_fin.2 hfin) (by rw [trunc_whole tv]; omega)
      have hcP := run_whole (finF_fin.2 pf) (by rw [trunc_whole pv]; omega)
      have hcM := run_whole (finF_fin.2 mf) (by rw [trunc_whole mv]; omega)
      rw [trunc_whole tv] at hcT
      rw [trunc_whole pv] at hcP
      rw [trunc_whole mv] at hcM
      have wT : IntKind.i64.wrap (T - n) = T - n := IntWalk.i64_in _ (by omega)
      have wP : IntKind.i64.wrap (Tp - n) = Tp - n := IntWalk.i64_in _ (by omega)
      have wM : IntKind.i64.wrap (Tm - n) = Tm - n := IntWalk.i64_in _ (by omega)
      have zT := fun w => sizeL_any (T - n) (by omega) w
      have zP := fun w => sizeL_any (Tp - n) (by omega) w
      have zM := fun w => sizeL_any (Tm - n) (by omega) w
      have g1 : decide (((T - n).natAbs : Int) ≤ ((Tp - n).natAbs : Int)) = true := decide_eq_true (by omega)
      have g2 : decide (((T - n).natAbs : Int) ≤ ((Tm - n).natAbs : Int)) = true := decide_eq_true (by omega)
      have hne : fval (nearF n) ≠ 0 := by
        intro h
        rw [h] at hbig2
        have := Nat.mul_le_mul_left 9007199254740992 (show 1 ≤ unit from unit_pos)
        simp at hbig2
        omega
      have hsg : fval (nearF n) < 0 ↔ n < 0 := by
        rw [tv, ← sT]
        have := mul_unit_lt (a := T) (b := 0)
        rw [Int.zero_mul] at this
        exact this
      obtain ⟨up, hupv⟩ : ∃ up, (if decide (0 < fval (nearF n)) = true then nearF n + 1 else nearF n - 1) = up := ⟨_, rfl⟩
      obtain ⟨dn, hdnv⟩ : ∃ dn, (if decide (0 < fval (nearF n)) = false then nearF n + 1 else nearF n - 1) = dn := ⟨_, rfl⟩
      have HUP := Lib.hid (fun w => (hup w).mono (R' := fun e w' => e = .returned (.float .f64 up) ∧ w = w') (fun _ _ ⟨⟨g, h, h2⟩, h'⟩ => ⟨by rw [h, h2 hne, hupv], h'⟩))
      have HDN := Lib.hid (fun w => (hdn w).mono (R' := fun e w' => e = .returned (.float .f64 dn) ∧ w = w') (fun _ _ ⟨⟨g, h, h2⟩, h'⟩ => ⟨by rw [h, h2 hne, hdnv], h'⟩))
      have hboth : (up = nearF n + 1 ∧ dn = nearF n - 1) ∨ (up = nearF n - 1 ∧ dn = nearF n + 1) := by
        by_cases h : 0 < fval (nearF n)
        · rw [decide_eq_true h] at hupv hdnv
          exact .inl ⟨by rw [← hupv, if_pos rfl], by rw [← hdnv, if_neg (by decide)]⟩
        · rw [decide_eq_false h] at hupv hdnv
          exact .inr ⟨by rw [← hupv, if_neg (by decide)], by rw [← hdnv, if_pos rfl]⟩
      clear hupv hdnv
      generalize fval (nearF n) = F at hs1 HGE
      generalize (T - n).natAbs = dT at zT g1 g2
      generalize (Tp - n).natAbs = dP at zP g1
      generalize (Tm - n).natAbs = dM at zM g2
      have ZT := Lib.hid zT
      have ZP := Lib.hid zP
      have ZM := Lib.hid zM
      have HP1 := Lib.hid hp1
      have HP0 := Lib.hid hp0
      have HS1 := Lib.hid hs1
      clear hn ht hp1 hp0 hs1 hpI e62 em62 k63 km63 hup hdn h53 hge zT zP zM o62 om62 hbig hbig2 tv pf pv mf mv p64 c1 c2 bT bp bm bn sT sp sm hne hsg hfin h64
      rcases hboth with ⟨rfl, rfl⟩ | ⟨rfl, rfl⟩
      all_goals
        generalize nearF n + 1 = xp at HUP HDN hcP
        generalize nearF n - 1 = xm at HUP HDN hcM
        generalize nearF n = x at hsub HP1 o1 o2 HS1 HUP HDN hcT
        go_enter Tryd.func9, Tryd.ntmps9
        go_wp2_with (first
          | (go_at_call 17; (with_reducible refine HK.out.mono ?_); rintro e w1 ⟨rfl, hE1⟩; have HX := Lib.hid hE1; clear hE1)
          | (go_at_call 36; (with_reducible first | refine (HP1.out _).mono ?_ | refine (HP0.out _).mono ?_); rintro e wa ⟨rfl, rfl⟩)
          | (go_at_call 30; (with_reducible first | refine (ZT.out _).mono ?_ | refine (ZP.out _).mono ?_ | refine (ZM.out _).mono ?_); rintro e wa ⟨rfl, rfl⟩)
          | (go_at_call 37; (with_reducible first | refine (HUP.out _).mono ?_ | refine (HDN.out _).mono ?_); rintro e wa ⟨rfl, rfl⟩)
          | (go_at_call 38; (with_reducible refine (HS1.out _).mono ?_); rintro e wa ⟨⟨g9, rfl, hg1, hg2⟩, rfl⟩; have o9 := HGE.out _ hg1 hg2; clear hg1 hg2)
          | fail)
        all_goals go_ret
        all_goals exact ⟨by have := of_decide_eq_true g1; have := of_decide_eq_true g2; first | (simp; done) | (simp; omega), HX.out⟩

end Go.Proofs.YtlpifchimnnfdaaDoor
