/- What an exit signal does to who traps. -/
import Derived.Test.YtdimmomjildpcaaExTold
namespace Go.Proofs.Ytdimmomjildpcaa
open Go.RowKit
attribute [local irreducible] Ext
attribute [local go_sem] run_store_float

set_option maxRecDepth 100000 in
set_option maxHeartbeats 8000000 in
theorem told_plain (fr tt id rf : Int) (nm : ByteArray) {k : Int} {n : Int} {f : Nat} {s : ByteArray} {L : List Tm} {own : Bool} {G : Nat → Prop} {so : Option Addr} (cap : Nat) (w : World)
    (hrow : RowIn w own G L so 0) (hc : cntL L + 1 ≤ 100000000) (hok : okT (.mk k n f s L)) (hz : echk fr tt 5 id rf false nm k n f s L.length (checkT (.mk k n f s L)) = 0) {xn : Bool} (hxn : atomB k s normalS = xn) (hxk : atomB k s killS = false) (hfr : 0 ≤ fr ∧ fr ≤ 1099511627776) (hck : checkT (.mk k n f s L) = 0) (hcn : cntL L + 20 ≤ 100000000) :
    Calls Try.prog 12 #[.agg #[.int .i64 fr, .int .i64 tt, .int .i64 5, .int .i64 id, .int .i64 rf, .bool false, .string nm, .int .i64 k, .int .i64 n, .float .f64 f, .string s, .slice so L.length cap], .bool true] w fun e w' => ToldPost w fr e w' := by
  have HCH := Lib.hid (fun w (hr : RowIn w own G L so 0) => checked_any fr tt id rf false nm cap w hr hc hok hz)
  have HCP : Hid (∀ (w : World), RowIn w own G L so 0 → Calls Try.prog 25 #[.agg #[.int .i64 k, .int .i64 n, .float .f64 f, .string s, .slice so L.length cap]] w fun e w' => ∃ so2 cap2, e = .returned (.agg #[.int .i64 k, .int .i64 n, .float .f64 f, .string s, .slice so2 L.length cap2]) ∧ RowIn w' true (fun q => w.heap.size ≤ q) L so2 0 ∧ Ext w w') := Lib.hid (fun w (hr : RowIn w own G L so 0) => pcopy_any (.mk k n f s L) own G _ w (TmV.of_parts (cap := cap) hr) (by simpa only [cntT] using hc))
  have HA1 : Hid (∀ (w : World) (so : Option Addr) (m cap : Nat), Calls Try.prog 26 #[.agg #[.int .i64 k, .int .i64 n, .float .f64 f, .string s, .slice so m cap], .string ⟨#[110, 111, 114, 109, 97, 108]⟩] w fun e w' => e = .returned (.bool xn) ∧ Ext w w') := Lib.hid (fun w so m cap => by rw [← hxn]; exact isatom_any k n f s so m cap ⟨#[110, 111, 114, 109, 97, 108]⟩ w)
  have HA2 : Hid (∀ (w : World) (so : Option Addr) (m cap : Nat), Calls Try.prog 26 #[.agg #[.int .i64 k, .int .i64 n, .float .f64 f, .string s, .slice so m cap], .string ⟨#[107, 105, 108, 108]⟩] w fun e w' => e = .returned (.bool false) ∧ Ext w w') := Lib.hid (fun w so m cap => by rw [← hxk]; exact isatom_any k n f s so m cap ⟨#[107, 105, 108, 108]⟩ w)
  have HFR := Lib.hid hfr
  have HCK := Lib.hid (And.intro hck (And.intro hcn hok))
  clear hxn hxk hfr hck hcn
  have hB1 := SBox.new w fr tt 5 id rf false nm k n f s so L.length cap
  have hB2 := OBox.new (w.alloc (.cells #[.int .i64 fr, .int .i64 tt, .int .i64 5, .int .i64 id, .int .i64 rf, .bool false, .string nm, .int .i64 k, .int .i64 n, .float .f64 f, .string s, .slice so L.length cap] 27)) 0 0 0 0 ⟨#[]⟩ none 0 0
  rw [World.size_alloc] at hB2
  have hE := ((Ext.refl w).alloc (.cells #[.int .i64 fr, .int .i64 tt, .int .i64 5, .int .i64 id, .int .i64 rf, .bool false, .string nm, .int .i64 k, .int .i64 n, .float .f64 f, .string s, .slice so L.length cap] 27)).alloc (.cells #[.int .i64 0, .int .i64 0, .int .i64 0, .float .f64 0, .string ⟨#[]⟩, .slice none 0 0] 37)
  have hB1 := hB1.ext ((Ext.refl _).alloc (.cells #[.int .i64 0, .int .i64 0, .int .i64 0, .float .f64 0, .string ⟨#[]⟩, .slice none 0 0] 37))
  obtain ⟨w2, hw2⟩ : ∃ w2, (w.alloc (.cells #[.int .i64 fr, .int .i64 tt, .int .i64 5, .int .i64 id, .int .i64 rf, .bool false, .string nm, .int .i64 k, .int .i64 n, .float .f64 f, .string s, .slice so L.length cap] 27)).alloc (.cells #[.int .i64 0, .int .i64 0, .int .i64 0, .float .f64 0, .string ⟨#[]⟩, .slice none 0 0] 37) = w2 := ⟨_, rfl⟩
  have hsz : w2.heap.size = w.heap.size + 2 := by rw [← hw2]; simp
  rw [hw2] at hB1 hB2 hE
  have HW := Lib.hid hw2
  have HSB := Lib.hid hB1
  have HOB := Lib.hid hB2
  have HX := Lib.hid hE
  have HR := Lib.hid (hrow.ext hE)
  have HSZ := Lib.hid hsz
  obtain ⟨a0, a1, a2, a3, a4, a5, a6, a7, a8, a9, a10, a11⟩ := hB1.cells
  clear hw2 hE hB1 hB2 hrow hc hok hz hsz
  go_enter Try.func12, Try.ntmps12
  go_upto_region 1 with (fail)
  rw [HW.out]
  go_upto_region 4 with (first
    | (go_at_call 24; (with_reducible refine (HCH.out _ HR.out).mono ?_); rintro e w3 ⟨rfl, hE3⟩; obtain ⟨d0, d1, d2, d3, d4, d5, d6, d7, d8, d9, d10, d11⟩ := (HSB.out.ext hE3).cells; have HX3 := Lib.hid hE3; clear hE3 a0 a1 a2 a3 a4 a5 a6 a7 a8 a9 a10 a11)
    | fail)
  go_upto_region 5 with (first
    | (go_at_call 25; (with_reducible refine (HCP.out _ (HR.out.ext HX3.out)).mono ?_); rintro e w4 ⟨so2, cap2, rfl, hr4, hE4⟩; have HX4 := Lib.hid (HX3.out.trans hE4); have HR4 := Lib.hid hr4; have HE4 := Lib.hid hE4; clear hr4 hE4 d0 d1 d2 d3 d4 d5 d6 d7 d8 d9 d10 d11)
    | fail)
  have hX5 := HX4.out.alloc (.cells #[.int .i64 k, .int .i64 n, .float .f64 f, .string s, .slice so2 L.length cap2] 25)
  have hR5 := RBox.new w4 k n f s so2 L.length cap2
  have hrow5 := HR4.out.ext ((Ext.refl w4).alloc (.cells #[.int .i64 k, .int .i64 n, .float .f64 f, .string s, .slice so2 L.length cap2] 25))
  obtain ⟨w5, hw5⟩ : ∃ w5, w4.alloc (.cells #[.int .i64 k, .int .i64 n, .float .f64 f, .string s, .slice so2 L.length cap2] 25) = w5 := ⟨_, rfl⟩
  obtain ⟨bt, hbt⟩ : ∃ bt, w4.heap.size = bt := ⟨_, rfl⟩
  rw [hw5] at hX5 hR5 hrow5 ⊢
  rw [hbt] at hR5 ⊢
  obtain ⟨t0, t1, t2, t3, t4⟩ := hR5.cells
  have HX5 := Lib.hid hX5
  have HR5 := Lib.hid hR5
  have HROW := Lib.hid hrow5
  have HN5 := Lib.hid (show w.heap.size ≤ w3.heap.size by have := HX3.out.size; have := HSZ.out; omega)
  have HBTN := Lib.hid (show w.heap.size + 2 ≤ bt by rw [← hbt]; have := HX4.out.size; have := HSZ.out; omega)
  have HN6 := Lib.hid (show w.heap.size + 2 ≤ w3.heap.size by have := HX3.out.size; have := HSZ.out; omega)
  clear hw5 hbt hX5 hR5 hrow5
  go_upto_region 9 with (first
    | (go_at_call 26; (with_reducible first | refine (HA1.out _ _ _ _).mono ?_ | refine (HA2.out _ _ _ _).mono ?_); rintro e w6 ⟨rfl, hE6⟩; have hX6 := HX5.out.trans hE6; have HX5 := Lib.hid hX6; clear hX6 t0 t1 t2 t3 t4; obtain ⟨t0, t1, t2, t3, t4⟩ := (HR5.out.ext hE6).cells; have hR6 := HR5.out.ext hE6; have HR5 := Lib.hid hR6; clear hR6; have hrow6 := HROW.out.ext hE6; have HROW := Lib.hid hrow6; clear hrow6 hE6; obtain ⟨d0, d1, d2, d3, d4, d5, d6, d7, d8, d9, d10, d11⟩ := (HSB.out.ext HX5.out).cells)
    | fail)
  clear d0 d1 d2 d3 d4 d5 d6 d7 d8 d9 d10 d11 t0 t1 t2 t3 t4
  have HBT := Lib.hid (And.intro HR5.out.lt HN5.out)
  have hs6 := S6.refl (w.heap.size + 1) w6
  have HMOD := Lib.hid (fun (w' : World) (h : S6 (w.heap.size + 1) w6 w') => (by unfold S6 at h; exact h : Mod (fun k => k = w.heap.size + 1) w6 w'))
  have hsb := Lib.hid (HSB.out.ext HX5.out)
  have hbtne := Lib.hid (show ¬ (bt = w.heap.size + 1) from fun e => by have := HBTN.out; omega)
  have dAll := fun w' (h : S6 (w.heap.size + 1) w6 w') => (hsb.out.keep (HMOD.out w' h) (by omega)).cells.1
  have tAll0 := fun w' (h : S6 (w.heap.size + 1) w6 w') => (HR5.out.keep (HMOD.out w' h) hbtne.out).cells.1
  have tAll1 := fun w' (h : S6 (w.heap.size + 1) w6 w') => (HR5.out.keep (HMOD.out w' h) hbtne.out).cells.2.1
  have tAll2 := fun w' (h : S6 (w.heap.size + 1) w6 w') => (HR5.out.keep (HMOD.out w' h) hbtne.out).cells.2.2.1
  have tAll3 := fun w' (h : S6 (w.heap.size + 1) w6 w') => (HR5.out.keep (HMOD.out w' h) hbtne.out).cells.2.2.2.1
  have tAll4 := fun w' (h : S6 (w.heap.size + 1) w6 w') => (HR5.out.keep (HMOD.out w' h) hbtne.out).cells.2.2.2.2
  have HRA := Lib.hid (fun w' (h : S6 (w.heap.size + 1) w6 w') => HROW.out.keep (HMOD.out w' h) (fun q hq e => by have := HN6.out; omega))
  have HEI : Hid (∀ (wP : World) (c3 : Nat), RowIn wP true (fun q => w3.heap.size ≤ q) L so2 0 → Calls Try.prog 27 #[.slice (some ⟨wP.heap.size, 0, none⟩) 3 c3] (wP.alloc (.cells #[.int .i64 3, .int .i64 0, .float .f64 0, .string ⟨#[69, 88, 73, 84]⟩, .slice none 0 0, .int .i64 6, .int .i64 fr, .float .f64 0, .string ⟨#[]⟩, .slice none 0 0, .int .i64 k, .int .i64 n, .float .f64 f, .string s, .slice so2 L.length cap2] 25)) fun e w' => EithPost (wP.alloc (.cells #[.int .i64 3, .int .i64 0, .float .f64 0, .string ⟨#[69, 88, 73, 84]⟩, .slice none 0 0, .int .i64 6, .int .i64 fr, .float .f64 0, .string ⟨#[]⟩, .slice none 0 0, .int .i64 k, .int .i64 n, .float .f64 f, .string s, .slice so2 L.length cap2] 25)) wP.heap.size exitS fr e w') :=
    Lib.hid (fun wP c3 hr => either_any exitS (by decide) fr HFR.out (wP.alloc (.cells #[.int .i64 3, .int .i64 0, .float .f64 0, .string ⟨#[69, 88, 73, 84]⟩, .slice none 0 0, .int .i64 6, .int .i64 fr, .float .f64 0, .string ⟨#[]⟩, .slice none 0 0, .int .i64 k, .int .i64 n, .float .f64 f, .string s, .slice so2 L.length cap2] 25)) (heap_alloc_new wP _) (hr.ext ((Ext.refl wP).alloc _)) HCK.out.2.1 HCK.out.2.2 HCK.out.1)
  have HPID := Lib.hid (fun w => pid_any fr ⟨by have := HFR.out; omega, by have := HFR.out; omega⟩ w)
  have HOX := Lib.hid (HOB.out.ext HX5.out)
  have dA0 := dAll _ hs6; have tA0 := tAll0 _ hs6; have tA1 := tAll1 _ hs6; have tA2 := tAll2 _ hs6; have tA3 := tAll3 _ hs6; have tA4 := tAll4 _ hs6
  have HDA := Lib.hid dAll; have HT0 := Lib.hid tAll0; have HT1 := Lib.hid tAll1; have HT2 := Lib.hid tAll2; have HT3 := Lib.hid tAll3; have HT4 := Lib.hid tAll4
  clear dAll tAll0 tAll1 tAll2 tAll3 tAll4
  go_region_with (first
    | (go_at_call 22; (with_reducible refine (patom_any _ _).mono ?_); rintro e wA ⟨rfl, hEA⟩; have hcA : S6 (w.heap.size + 1) w6 wA := S6.ext (by first | assumption | exact S6.drew (by assumption)) hEA; have HCA := Lib.hid (show Ext w6 wA by first | exact hEA | exact Ext.trans (Ext.drew (Ext.refl _)) hEA); have eA0 := HDA.out _ hcA; have eA1 := HT0.out _ hcA; have eA2 := HT1.out _ hcA; have eA3 := HT2.out _ hcA; have eA4 := HT3.out _ hcA; have eA5 := HT4.out _ hcA; clear hEA dA0 tA0 tA1 tA2 tA3 tA4)
    | (go_at_call 28; (with_reducible refine (HPID.out _).mono ?_); rintro e wP ⟨rfl, hEP⟩; have hcP : S6 (w.heap.size + 1) w6 wP := S6.ext (by assumption) hEP; have HCP2 := Lib.hid (HCA.out.trans hEP); have eP1 := HT0.out _ hcP; have eP2 := HT1.out _ hcP; have eP3 := HT2.out _ hcP; have eP4 := HT3.out _ hcP; have eP5 := HT4.out _ hcP; clear hEP eA0 eA1 eA2 eA3 eA4 eA5)
    | (go_at_call 27; (with_reducible refine (HEI.out _ _ (HRA.out _ (by assumption))).mono ?_); rintro e wE ⟨y, so3, cap3, rfl, hrE, hchk, hcy, hoky, hME⟩; have hOE := ((HOX.out.ext HCP2.out).ext ((Ext.refl wP).alloc (.cells #[.int .i64 3, .int .i64 0, .float .f64 0, .string ⟨#[69, 88, 73, 84]⟩, .slice none 0 0, .int .i64 6, .int .i64 fr, .float .f64 0, .string ⟨#[]⟩, .slice none 0 0, .int .i64 k, .int .i64 n, .float .f64 f, .string s, .slice so2 L.length cap2] 25))).keep hME (by have := HBT.out; have := HCP2.out.size; have := heap_lt HOX.out; omega); obtain ⟨z0, z1, z2, z3, z4, z5⟩ := hOE.cells; have g0 := hOE.free 0; have g1 := hOE.free 1; have g2 := hOE.free 2; have g3 := hOE.free 3; have g4 := hOE.free 4; have g5 := hOE.free 5; have hcE : S6 (w.heap.size + 1) w6 wE := S6.ext hs6 (ext_of_mod (HCP2.out.alloc (.cells #[.int .i64 3, .int .i64 0, .float .f64 0, .string ⟨#[69, 88, 73, 84]⟩, .slice none 0 0, .int .i64 6, .int .i64 fr, .float .f64 0, .string ⟨#[]⟩, .slice none 0 0, .int .i64 k, .int .i64 n, .float .f64 f, .string s, .slice so2 L.length cap2] 25)) hME (fun q hq => by have := HCP2.out.size; omega)); have HOE := Lib.hid hOE; have HHE := Lib.hid (And.intro hrE (And.intro hchk (And.intro hcy (And.intro hoky hME)))); clear hOE hrE hchk hcy hoky hME; clear eP1 eP2 eP3 eP4 eP5)
    | fail)
  all_goals
    go_wp2_with fail
    obtain ⟨r0, r1, r2, r3, r4, r5⟩ := (HOE.out.fill 1 7 0 0 ⟨#[]⟩ so3 3 cap3).cells
    have hXE : Ext w wE := ext_of_mod (((HX.out.trans HX5.out).trans HCP2.out).alloc (.cells #[.int .i64 3, .int .i64 0, .float .f64 0, .string ⟨#[69, 88, 73, 84]⟩, .slice none 0 0, .int .i64 6, .int .i64 fr, .float .f64 0, .string ⟨#[]⟩, .slice none 0 0, .int .i64 k, .int .i64 n, .float .f64 f, .string s, .slice so2 L.length cap2] 25)) HHE.out.2.2.2.2 (fun j e => by have := HCP2.out.size; have := HBT.out; have := HN5.out; have := HX5.out.size; have := HSZ.out; omega)
    exact bodyPost_ret (v := .tuple #[.agg #[.int .i64 1, .int .i64 7, .int .i64 0, .float .f64 0, .string ⟨#[]⟩, .slice so3 3 cap3], .int .i64 0]) (by clear z0 z1 z2 z3 z4 z5; simp [results, Try.f12, go_sem, r0, r1, r2, r3, r4, r5]) rfl
      ⟨y, so3, cap3, rfl, (HHE.out.1.keep (sets_mod (F := fun j => j = w.heap.size + 1) (B := w.heap.size + 1) (.inl rfl) [(0, .int .i64 1), (1, .int .i64 7), (2, .int .i64 0), (3, .float .f64 0), (4, .string ⟨#[]⟩), (5, .slice so3 3 cap3)] (Mod.refl _ _)) (fun j hj e => by have := World.size_alloc wP (.cells #[.int .i64 3, .int .i64 0, .float .f64 0, .string ⟨#[69, 88, 73, 84]⟩, .slice none 0 0, .int .i64 6, .int .i64 fr, .float .f64 0, .string ⟨#[]⟩, .slice none 0 0, .int .i64 k, .int .i64 n, .float .f64 f, .string s, .slice so2 L.length cap2] 25); have := HCP2.out.size; have := HX5.out.size; have := HSZ.out; omega)).mono (fun j hj => by have := World.size_alloc wP (.cells #[.int .i64 3, .int .i64 0, .float .f64 0, .string ⟨#[69, 88, 73, 84]⟩, .slice none 0 0, .int .i64 6, .int .i64 fr, .float .f64 0, .string ⟨#[]⟩, .slice none 0 0, .int .i64 k, .int .i64 n, .float .f64 f, .string s, .slice so2 L.length cap2] 25); have := HCP2.out.size; have := HX5.out.size; have := HSZ.out; omega), HHE.out.2.1, HHE.out.2.2.1, HHE.out.2.2.2.1,
       ext_sets (B := w.heap.size + 1) hXE (Nat.le_add_right _ _) [(0, .int .i64 1), (1, .int .i64 7), (2, .int .i64 0), (3, .float .f64 0), (4, .string ⟨#[]⟩), (5, .slice so3 3 cap3)]⟩

end Go.Proofs.Ytdimmomjildpcaa
