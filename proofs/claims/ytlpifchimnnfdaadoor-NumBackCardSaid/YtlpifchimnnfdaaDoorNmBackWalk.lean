/- NumBack's walk: a float's text says its bits; small whole numbers go to floats and back. -/
import Derived.Test.YtlpifchimnnfdaaDoorNmCmp
import Derived.Test.YtlpifchimnnfdaaDoorNmWhole
namespace Go.Proofs.YtlpifchimnnfdaaDoor
open Go.RowKit Ieee
attribute [local irreducible] Ext
attribute [local go_sem] run_store_float

theorem textF_data (f : Nat) : (textF f).data = (35 :: hexL f 16).toArray := by
  unfold textF
  rw [ByteArray.data_append]
  show #[35] ++ (hexL f 16).toArray = _
  simp

theorem textF_size (f : Nat) : (textF f).size = 17 := by
  show (textF f).data.size = 17
  rw [textF_data]
  simp [hexL]

theorem textF_at (f k : Nat) (hk : k < 17) (h : k < (textF f).size) : ((textF f)[k]'h).toNat = if k = 0 then 35 else hexd (f / 16 ^ (16 - k) % 16) := by
  have e : (textF f)[k]'h = ((textF f).data)[k]'h := rfl
  rw [e]
  have e2 : ((textF f).data)[k]? = some (((textF f).data)[k]'h) := Array.getElem?_eq_getElem h
  generalize ((textF f).data)[k]'h = b at e2 ⊢
  rw [textF_data] at e2
  cases k with
  | zero =>
    simp at e2
    rw [← e2]
    rfl
  | succ j =>
    have e3 : (hexL f 16)[j]? = some (UInt8.ofNat (hexd (f / 16 ^ (15 - j) % 16))) := by
      unfold hexL
      rw [List.getElem?_map, List.getElem?_range (by omega)]
      rfl
    rw [List.getElem?_toArray, List.getElem?_cons_succ, e3] at e2
    rw [← Option.some.inj e2, if_neg (by omega), show 16 - (j + 1) = 15 - j by omega]
    exact Nat.mod_eq_of_lt (hexd_lt _ (Nat.mod_lt _ (by decide)))

theorem index_text (f k : Nat) (hk : k < 17) (w : World) : (Instr.index 9 (.string (textF f)) (.int .i64 (k : Int))).run Tryd.prog w = .ok (.int .u8 ((if k = 0 then 35 else hexd (f / 16 ^ (16 - k) % 16) : Nat) : Int)) w := by
  have hs := textF_size f
  rw [run_index_string (P := Tryd.prog) w 9 (textF f) .i64 (k : Int) Tryd.underlying9, dif_pos ⟨by omega, by omega⟩]
  have := textF_at f k hk (by omega)
  simp only [Int.toNat_natCast]
  rw [this]

theorem or_digit {x d : Nat} (hx : x < 1152921504606846976) (hd : d < 16) : bits .or .u64 ((x * 16 : Nat) : Int) (d : Int) = ((x * 16 + d : Nat) : Int) := by
  show IntKind.u64.wrap ((BitVec.ofInt 64 ((x * 16 : Nat) : Int) ||| BitVec.ofInt 64 ((d : Nat) : Int)).toNat : Int) = _
  rw [BitVec.toNat_or, ofInt_u64 (x * 16) (by omega), ofInt_u64 d (by omega)]
  have e : x * 16 ||| d = x * 16 + d := by
    have h := Nat.two_pow_add_eq_or_of_lt (i := 4) (b := d) (by omega) x
    rw [show (2 : Nat) ^ 4 = 16 by decide, Nat.mul_comm 16 x] at h
    exact h.symm
  rw [e, wrap_u64]
  omega

theorem back_num {N : Int} (h : N.natAbs < 9007199254740992) : fin (nearF N) ∧ fval (nearF N) = N * (unit : Int) ∧ wholeI .zero (nearF N) = N ∧ nearF N < 18446744073709551616 := by
  obtain ⟨h1, h2⟩ := nearI (n := N) (by omega)
  exact ⟨h1, h2, trunc_whole h2, nearF_lt N⟩

set_option maxRecDepth 100000 in
set_option maxHeartbeats 20000000 in
theorem numBack_any (u : Nat) (n : Int) (hu : u < 18446744073709551616) (_ : -9223372036854775808 ≤ n ∧ n ≤ 9223372036854775807) (w : World) (ht : Tab4 w) :
    Calls Tryd.prog 16 #[.int .u64 u, .int .i64 n] w fun e w' => e = .returned (.bool true) ∧ Ext w w' := by
  have HT := Lib.hid ht
  have HK := Lib.hid (known_any w ht)
  have HU := Lib.hid hu
  have hN : (n.tmod 9007199254740992).natAbs < 9007199254740992 := by
    rw [Int.natAbs_tmod]
    exact Nat.mod_lt _ (by decide)
  obtain ⟨N, eN⟩ : ∃ N, n.tmod 9007199254740992 = N := ⟨_, rfl⟩
  rw [eN] at hN
  have wN : IntKind.i64.wrap N = N := IntWalk.i64_in _ (by omega)
  obtain ⟨xk, xf, xe, hx⟩ := mkF_form u
  have hbu := fun w => pbits_any u hu w
  rw [hx] at hbu
  unfold nV at hbu
  have HBU := Lib.hid hbu
  have HXF := Lib.hid hx
  have HN := Lib.hid hN
  clear hu ht hbu hx hN
  go_enter Tryd.func16, Tryd.ntmps16
  go_upto_region 3 with (first
    | (go_at_call 17; (with_reducible refine HK.out.mono ?_); rintro e w1 ⟨rfl, hE1⟩; have HX := Lib.hid hE1; clear hE1)
    | fail)
  go_upto_region 4 with (first
    | (go_at_call 24; (with_reducible refine (HBU.out _).mono ?_); rintro e w2 ⟨rfl, hE2⟩; have HE2 := Lib.hid hE2; clear hE2)
    | fail)
  obtain ⟨w3, B3, hw3, hB3, hs3, hx3, hR3⟩ := kbox HE2.out xk 0 xf
  rw [hw3, hB3]
  have HX := Lib.hid (HX.out.trans hx3)
  have HA := Lib.hid hR3
  clear hw3 hB3 hs3 hx3 hR3 HE2
  go_upto_if 22 with (fail)
  go_cut [] from 23 to 64 (fun wx => Ext w3 wx)
  case first =>
    have hx := HXF.out
    unfold mkF at hx
    by_cases fu : finF u = true
    · rw [if_pos fu] at hx
      obtain ⟨e1, e2, e3, e4⟩ := nV_eq hx
      subst e1 e3 e4
      have HTX := Lib.hid (fun w h => text_float 2 0 (by decide) u HU.out ⟨#[]⟩ none 0 0 w h)
      have hix := fun k hk w => index_text u k hk w
      have hsz := textF_size u
      generalize textF u = S at HTX hix hsz
      have HIX := Lib.hid hix
      have hi0 : ∀ w, (Instr.index 9 (.string S) (.int .i64 0)).run Tryd.prog w = .ok (.int .u8 35) w := fun w => hix 0 (by decide) w
      obtain ⟨a0, a1, a2, a3, a4⟩ := HA.out.cells
      clear hx fu e2 hix
      go_upto_region 9 with (first
        | (go_at_call 47; (with_reducible refine (HTX.out _ (HT.out.ext HX.out)).mono ?_); rintro e w4 ⟨rfl, hE4⟩; have HE4 := Lib.hid hE4; clear hE4)
        | fail)
      clear a0 a1 a2 a3 a4 hi0
      have e16 : (16 : Nat) ^ (16 - 0) = 18446744073709551616 := by decide
      have h16 : u / 16 ^ (16 - 0) = 0 := Nat.div_eq_of_lt (by rw [e16]; exact HU.out)
      have H16 := Lib.hid h16
      clear h16 e16
      go_wp2_with fail
      go_loopg [8, 9] 16 (fun g v i wr => ∃ j : Nat, j + g = 16 ∧ v = .int .u64 ((u / 16 ^ (16 - j) : Nat) : Int) ∧ i = .int .i64 ((j : Int) + 1) ∧ w4 = wr)
      case atStart => exact ⟨0, by omega, by rw [H16.out]; rfl, rfl, rfl⟩
      case round =>
        obtain ⟨j, hj, rfl, rfl, rfl⟩ := hrel
        by_cases hlt : j < 16
        · have c1 : decide ((j : Int) + 1 < 17) = true := decide_eq_true (by omega)
          have c1' : decide ((j : Int) < 16) = true := decide_eq_true (by omega)
          have hi : ∀ w, (Instr.index 9 (.string S) (.int .i64 ((j : Int) + 1))).run Tryd.prog w = .ok (.int .u8 ((hexd (u / 16 ^ (15 - j) % 16) : Nat) : Int)) w := by
            intro w
            have := HIX.out (j + 1) (by omega) w
            rw [if_neg (by omega), show 16 - (j + 1) = 15 - j by omega] at this
            exact this
          obtain ⟨q, hq⟩ : ∃ q, u / 16 ^ (16 - j) = q := ⟨_, rfl⟩
          obtain ⟨p, hp⟩ : ∃ p, u / 16 ^ (15 - j) = p := ⟨_, rfl⟩
          have hpq : p / 16 = q := by
            rw [← hp, ← hq, show 16 - j = (15 - j) + 1 by omega, Nat.pow_succ, Nat.div_div_eq_div_mul]
          have hpu : p < 18446744073709551616 := by rw [← hp]; have := HU.out; have := Nat.div_le_self u (16 ^ (15 - j)); omega
          rw [hp] at hi
          rw [hq]
          obtain ⟨d, hd⟩ : ∃ d, p % 16 = d := ⟨_, rfl⟩
          rw [hd] at hi
          have hq60 : q < 1152921504606846976 := by omega
          have ho := or_digit (x := q) (d := d) hq60 (by omega)
          have hpd : q * 16 + d = p := by omega
          rw [hpd] at ho
          have ho2 : bits .or .u64 ((q : Int) * 16) (d : Int) = (p : Int) := ho
          have e1 : IntKind.u64.wrap ((q : Int) * 16) = ((q * 16 : Nat) : Int) := by rw [wrap_u64]; omega
          have e3 : IntKind.i64.wrap ((j : Int) + 1 + 1) = (j : Int) + 1 + 1 := IntWalk.i64_in _ (by omega)
          have hP := Lib.hid (And.intro hp (And.intro hj hlt))
          by_cases h10 : d < 10
          · have hb : hexd d = 48 + d := by unfold hexd; rw [if_pos h10]
            rw [hb] at hi
            have hwb : IntKind.u64.wrap ((48 + d : Nat) : Int) = ((48 + d : Nat) : Int) := by rw [wrap_u64]; omega
            have g1 : decide ((48 : Int) ≤ ((48 + d : Nat) : Int)) = true := decide_eq_true (by omega)
            have g2 : decide (((48 + d : Nat) : Int) ≤ 57) = true := decide_eq_true (by omega)
            have g3 : ((48 + d : Nat) : Int) - 48 = (d : Int) := by omega
            have g4 : IntKind.u64.wrap (d : Int) = (d : Int) := by rw [wrap_u64]; omega
            generalize 48 + d = b at hi g1 g2 g3 hwb
            clear hq hp hpq hpu hd hq60 hpd hb h10 HIX ho hj hlt
            go_wp2_with fail
            go_roundg (16 - j - 1)
            case measure => have := hP.out; omega
            case rel => exact ⟨j + 1, by have := hP.out; omega, by rw [show 16 - (j + 1) = 15 - j by omega, hP.out.1], by congr 1, rfl⟩
          · have hd16 : d < 16 := by omega
            have hb : hexd d = 87 + d := by unfold hexd; rw [if_neg h10]
            rw [hb] at hi
            have hwb : IntKind.u64.wrap ((87 + d : Nat) : Int) = ((87 + d : Nat) : Int) := by rw [wrap_u64]; omega
            have g1 : decide ((48 : Int) ≤ ((87 + d : Nat) : Int)) = true := decide_eq_true (by omega)
            have g2 : decide (((87 + d : Nat) : Int) ≤ 57) = false := decide_eq_false (by omega)
            have g5 : decide ((97 : Int) ≤ ((87 + d : Nat) : Int)) = true := decide_eq_true (by omega)
            have g6 : decide (((87 + d : Nat) : Int) ≤ 102) = true := decide_eq_true (by omega)
            have g3 : ((87 + d : Nat) : Int) - 97 + 10 = (d : Int) := by omega
            have g7 : IntKind.u64.wrap (((87 + d : Nat) : Int) - 97) = ((87 + d : Nat) : Int) - 97 := by rw [wrap_u64]; omega
            have g4 : IntKind.u64.wrap (d : Int) = (d : Int) := by rw [wrap_u64]; omega
            generalize 87 + d = b at hi g1 g2 g3 g5 g6 g7 hwb
            clear hq hp hpq hpu hd hq60 hpd hb h10 HIX ho hj hlt hd16
            go_wp2_with fail
            go_roundg (16 - j - 1)
            case measure => have := hP.out; omega
            case rel => exact ⟨j + 1, by have := hP.out; omega, by rw [show 16 - (j + 1) = 15 - j by omega, hP.out.1], by congr 1, rfl⟩
        · obtain rfl : j = 16 := by omega
          have hv : u / 16 ^ (16 - 16) = u := by rw [Nat.sub_self, Nat.pow_zero, Nat.div_one]
          rw [hv]
          have hnn : ((u : Int) != (u : Int)) = false := by simp
          go_wp2_with fail
          go_meet
          exact HE4.out
    · rw [if_neg fu] at hx
      obtain ⟨e1, e2, e3, e4⟩ := nV_eq hx
      subst e1 e3 e4
      clear hx fu e2
      go_wp2_with fail
      go_meet
      exact Ext.refl w3
  case rest =>
    have HX := Lib.hid (HX.out.trans hcut)
    clear hcut
    rename World => w5
    obtain ⟨bf, bv, bw, b64⟩ := back_num HN.out
    have hin : -576460752303423488 ≤ N ∧ N ≤ 576460752303423487 := by have := HN.out; omega
    have bF := finF_fin.2 bf
    have hre := fun w => preal1_any 1 N 0 ⟨#[]⟩ none 0 0 (by decide) w
    rw [numV_1 hin, show reV 1 N 0 true = nV 2 0 (nearF N) 0 from (show reV 1 N 0 true = mkF (nearF N) from rfl).trans (mkF_fin bF)] at hre
    have hwh := fun w => pwhole_0 ⟨#[116, 114, 117, 110, 99]⟩ (by kernel_rfl) 2 0 (nearF N) ⟨#[]⟩ none 0 0 b64 w
    rw [numV_2 bF, show whV 0 2 0 (nearF N) true = nV 1 N 0 0 from (show whV 0 2 0 (nearF N) true = mkI (wholeI .zero (nearF N)) from rfl).trans (by rw [bw]; exact mkI_in' hin)] at hwh
    have hcm := fun w => pcmp_any 1 N 0 ⟨#[]⟩ none 0 0 2 0 (nearF N) ⟨#[]⟩ none 0 0 (numV_1 hin) (numV_2 bF) w
    rw [show cmpI (numVal 1 N 0) (numVal 2 0 (nearF N)) = 0 by
      show cmpI (N * (unit : Int)) (fval (nearF N)) = 0
      rw [bv]
      unfold cmpI
      rw [if_neg (by omega), if_neg (by omega)]] at hcm
    have hsm := fun w => psame_any 1 N 0 ⟨#[]⟩ none 0 0 2 0 (nearF N) ⟨#[]⟩ none 0 0 (by decide) b64 (numV_1 hin) (numV_2 bF) w
    rw [show sameN 1 N 0 2 0 (nearF N) = false by unfold sameN; rfl] at hsm
    have hi := fun n w => i_any n w
    unfold tV at hi
    unfold nV at hre hwh
    generalize nearF N = x at hre hwh hcm hsm
    have HRE := Lib.hid hre
    have HWH := Lib.hid hwh
    have HCM := Lib.hid hcm
    have HSM := Lib.hid hsm
    have HI := Lib.hid hi
    clear hre hwh hcm hsm hi bf bv bw b64 hin bF
    go_upto_region 23 with (first
      | (go_at_call 27; (with_reducible refine (HI.out _ _).mono ?_); rintro e w6 ⟨rfl, hE6⟩; have HX6 := Lib.hid hE6; clear hE6)
      | (go_at_call 34; (with_reducible refine (HRE.out _).mono ?_); rintro e w7 ⟨rfl, hE7⟩; have HX7 := Lib.hid (HX6.out.trans hE7); clear hE7)
      | fail)
    obtain ⟨w8, B8, hw8, hB8, hs8, hx8, hR8⟩ := kbox HX7.out 2 0 x
    rw [hw8, hB8]
    have HX := Lib.hid (HX.out.trans hx8)
    have HR := Lib.hid hR8
    clear hw8 hB8 hs8 hx8 hR8 HX6 HX7
    obtain ⟨r0, r1, r2, r3, r4⟩ := HR.out.cells
    go_upto_region 24 with (first
      | (go_at_call 53; (with_reducible refine (HWH.out _).mono ?_); rintro e w9 ⟨rfl, hE9⟩; have HX9 := Lib.hid hE9; clear hE9)
      | fail)
    obtain ⟨w10, B10, hw10, hB10, hs10, hx10, hR10⟩ := kbox HX9.out 1 N 0
    rw [hw10, hB10]
    have HX := Lib.hid (HX.out.trans hx10)
    have HR := Lib.hid (HR.out.ext hx10)
    have HV := Lib.hid hR10
    clear hw10 hB10 hs10 hx10 hR10 HX9 r0 r1 r2 r3 r4
    obtain ⟨r0, r1, r2, r3, r4⟩ := HR.out.exts
    obtain ⟨v0, v1, v2, v3, v4⟩ := HV.out.exts
    have hE0 := Ext.refl w10
    go_region_held3 (fun w' => Ext w10 w') (repeat (first | assumption | apply Ext.drew | apply Ext.alloc))
      (first
        | (go_at_call 27; (with_reducible refine (HI.out _ _).mono ?_); rintro e y1 ⟨rfl, hF1⟩; have hY1 : Ext w10 y1 := Ext.trans (by first | assumption | exact (Ext.refl _).drew) hF1; clear hF1)
        | (go_at_call 43; (with_reducible refine (HCM.out _).mono ?_); rintro e y2 ⟨rfl, hF2⟩; have hY2 : Ext w10 y2 := Ext.trans (by assumption) hF2; clear hF2)
        | (go_at_call 45; (with_reducible refine (HSM.out _).mono ?_); rintro e y3 ⟨rfl, hF3⟩; have hY3 : Ext w10 y3 := Ext.trans (by assumption) hF3; clear hF3)
        | fail)
    all_goals go_wp2_with fail
    all_goals go_ret
    all_goals exact ⟨by simp, HX.out.trans (by assumption)⟩

end Go.Proofs.YtlpifchimnnfdaaDoor
