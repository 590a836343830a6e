/- Signals are the same; an atom is right. -/
import Derived.Test.YtdimmomjildpcaaExDead7
import Derived.Test.YtdimmomjildpcaaTmTwin
namespace Go.Proofs.Ytdimmomjildpcaa
open Go.RowKit
attribute [local irreducible] Ext
attribute [local go_sem] run_store_float

set_option maxRecDepth 100000 in
set_option maxHeartbeats 4000000 in
theorem samesig_any (fr tt kd id rf : Int) (ln : Bool) (nm : ByteArray) {k n : Int} {f : Nat} {s : ByteArray} {L : List Tm} {o1 o2 : Bool} {G1 G2 : Nat → Prop} {so1 so2 : Option Addr} (cap1 cap2 : Nat) (w : World)
    (hr1 : RowIn w o1 G1 L so1 0) (hr2 : RowIn w o2 G2 L so2 0) (hc : cntL L + 1 ≤ 100000000) :
    Calls Try.prog 11 #[.agg #[.int .i64 fr, .int .i64 tt, .int .i64 kd, .int .i64 id, .int .i64 rf, .bool ln, .string nm, .int .i64 k, .int .i64 n, .float .f64 f, .string s, .slice so1 L.length cap1], .agg #[.int .i64 fr, .int .i64 tt, .int .i64 kd, .int .i64 id, .int .i64 rf, .bool ln, .string nm, .int .i64 k, .int .i64 n, .float .f64 f, .string s, .slice so2 L.length cap2]] w fun e w' => e = .returned (.bool true) ∧ Ext w w' := by
  have HT := Lib.hid (fun w (h1 : RowIn w o1 G1 L so1 0) (h2 : RowIn w o2 G2 L so2 0) => twin_any (.mk k n f s L) o1 o2 G1 G2 _ _ w (TmV.of_parts (cap := cap1) h1) (TmV.of_parts (cap := cap2) h2) (by simpa only [cntT] using hc))
  have hB1 := SBox.new w fr tt kd id rf ln nm k n f s so1 L.length cap1
  have hB2 := SBox.new (w.alloc (.cells #[.int .i64 fr, .int .i64 tt, .int .i64 kd, .int .i64 id, .int .i64 rf, .bool ln, .string nm, .int .i64 k, .int .i64 n, .float .f64 f, .string s, .slice so1 L.length cap1] 27)) fr tt kd id rf ln nm k n f s so2 L.length cap2
  rw [World.size_alloc] at hB2
  have hE := ((Ext.refl w).alloc (.cells #[.int .i64 fr, .int .i64 tt, .int .i64 kd, .int .i64 id, .int .i64 rf, .bool ln, .string nm, .int .i64 k, .int .i64 n, .float .f64 f, .string s, .slice so1 L.length cap1] 27)).alloc (.cells #[.int .i64 fr, .int .i64 tt, .int .i64 kd, .int .i64 id, .int .i64 rf, .bool ln, .string nm, .int .i64 k, .int .i64 n, .float .f64 f, .string s, .slice so2 L.length cap2] 27)
  have hB1 := hB1.ext ((Ext.refl _).alloc (.cells #[.int .i64 fr, .int .i64 tt, .int .i64 kd, .int .i64 id, .int .i64 rf, .bool ln, .string nm, .int .i64 k, .int .i64 n, .float .f64 f, .string s, .slice so2 L.length cap2] 27))
  obtain ⟨w2, hw2⟩ : ∃ w2, (w.alloc (.cells #[.int .i64 fr, .int .i64 tt, .int .i64 kd, .int .i64 id, .int .i64 rf, .bool ln, .string nm, .int .i64 k, .int .i64 n, .float .f64 f, .string s, .slice so1 L.length cap1] 27)).alloc (.cells #[.int .i64 fr, .int .i64 tt, .int .i64 kd, .int .i64 id, .int .i64 rf, .bool ln, .string nm, .int .i64 k, .int .i64 n, .float .f64 f, .string s, .slice so2 L.length cap2] 27) = w2 := ⟨_, rfl⟩
  rw [hw2] at hB1 hB2 hE
  have HW := Lib.hid hw2
  have HE := Lib.hid hE
  have HR := Lib.hid (And.intro (hr1.ext hE) (hr2.ext hE))
  obtain ⟨c0, c1, c2, c3, c4, c5, c6, c7, c8, c9, c10, c11⟩ := hB1.cells
  obtain ⟨d0, d1, d2, d3, d4, d5, d6, d7, d8, d9, d10, d11⟩ := hB2.cells
  clear hw2 hE hB1 hB2 hr1 hr2 hc
  go_enter Try.func11, Try.ntmps11
  go_upto_region 1 with (fail)
  rw [HW.out]
  go_wp2_with (first
    | (go_at_call 14; (with_reducible refine (HT.out _ HR.out.1 HR.out.2).mono ?_); rintro e w3 ⟨rfl, hE3⟩; have HX := Lib.hid hE3; clear hE3)
    | fail)
  go_ret
  exact ⟨rfl, HE.out.trans HX.out⟩

/-- An atom is right; a pid is. -/
theorem check_atom (s : ByteArray) (h : s.size ≤ 64) : checkT (.mk 3 0 0 s []) = 0 := by
  simp [checkT, measT, measL, allT, allL, fieldsT, fieldsV, ownT, ownV, Tm.kind, Tm.n, Tm.f, Tm.s, Tm.l, h]

theorem check_pid (n : Int) (h : 0 ≤ n ∧ n ≤ 1099511627776) : checkT (.mk 6 n 0 ⟨#[]⟩ []) = 0 := by
  simp [checkT, measT, measL, allT, allL, fieldsT, fieldsV, ownT, ownV, Tm.kind, Tm.n, Tm.f, Tm.s, Tm.l, h.1, h.2]

theorem row_nil (w : World) (own : Bool) (G : Nat → Prop) (so : Option Addr) : RowIn w own G [] so 0 := by
  unfold RowIn
  trivial

theorem ok_leaf (k n : Int) (s : ByteArray) : okT (.mk k n 0 s []) := by
  unfold okT okL
  exact ⟨by decide, trivial⟩

end Go.Proofs.Ytdimmomjildpcaa
