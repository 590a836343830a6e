/- What an exit signal does: kill; the end; nothing. -/
import Derived.Test.YtdimmomjildpcaaExDead
namespace Go.Proofs.Ytdimmomjildpcaa
open Go.RowKit
attribute [local irreducible] Ext
attribute [local go_sem] run_store_float

set_option maxRecDepth 100000 in
set_option maxHeartbeats 1000000 in
theorem checked_any (fr tt id rf : Int) (ln : Bool) (nm : ByteArray) {k n : Int} {f : Nat} {s : ByteArray} {L : List Tm} {own : Bool} {G : Nat → Prop} {so : Option Addr} (cap : Nat) (w : World)
    (hrow : RowIn w own G L so 0) (hc : cntL L + 1 ≤ 100000000) (hok : okT (.mk k n f s L)) (hz : echk fr tt 5 id rf ln nm k n f s L.length (checkT (.mk k n f s L)) = 0) :
    Calls Try.prog 24 #[.agg #[.int .i64 fr, .int .i64 tt, .int .i64 5, .int .i64 id, .int .i64 rf, .bool ln, .string nm, .int .i64 k, .int .i64 n, .float .f64 f, .string s, .slice so L.length cap], .int .i64 5] w fun e w' =>
      e = .returned (.int .i64 0) ∧ Ext w w' := by
  have HK := Lib.hid (fun w (hr : RowIn w own G L so 0) => echeck_any fr tt 5 id rf ln nm cap w hr hc hok)
  rw [hz] at HK
  have hB := SBox.new w fr tt 5 id rf ln nm k n f s so L.length cap
  have hE := (Ext.refl w).alloc (.cells #[.int .i64 fr, .int .i64 tt, .int .i64 5, .int .i64 id, .int .i64 rf, .bool ln, .string nm, .int .i64 k, .int .i64 n, .float .f64 f, .string s, .slice so L.length cap] 27)
  obtain ⟨w1, hw1⟩ : ∃ w1, w.alloc (.cells #[.int .i64 fr, .int .i64 tt, .int .i64 5, .int .i64 id, .int .i64 rf, .bool ln, .string nm, .int .i64 k, .int .i64 n, .float .f64 f, .string s, .slice so L.length cap] 27) = w1 := ⟨_, rfl⟩
  rw [hw1] at hB hE
  have HR := Lib.hid (hrow.ext hE)
  have HE := Lib.hid hE
  have HB := Lib.hid hB
  have HW := Lib.hid hw1
  obtain ⟨c0, c1, c2, c3, c4, c5, c6, c7, c8, c9, c10, c11⟩ := hB.cells
  clear hrow hB hE hw1 hz hc hok
  go_enter Try.func24, Try.ntmps24
  go_upto_region 1 with (fail)
  rw [HW.out]
  go_wp2_with (first
    | (go_at_call 8; (with_reducible refine (HK.out _ HR.out).mono ?_); rintro e w2 ⟨rfl, hE2⟩; obtain ⟨d0, d1, d2, d3, d4, d5, d6, d7, d8, d9, d10, d11⟩ := (HB.out.ext hE2).cells; have HE := Lib.hid (HE.out.trans hE2); clear hE2 c0 c1 c2 c3 c4 c5 c6 c7 c8 c9 c10 c11)
    | fail)
  go_ret
  exact ⟨rfl, HE.out⟩

/-- Is a term that atom? -/
def atomB (k : Int) (s x : ByteArray) : Bool := decide (k = 3) && decide (s = x)

set_option maxRecDepth 100000 in
theorem isatom_any (k n : Int) (f : Nat) (s : ByteArray) (so : Option Addr) (m cap : Nat) (x : ByteArray) (w : World) :
    Calls Try.prog 26 #[.agg #[.int .i64 k, .int .i64 n, .float .f64 f, .string s, .slice so m cap], .string x] w fun e w' => e = .returned (.bool (atomB k s x)) ∧ Ext w w' := by
  unfold atomB
  by_cases hk : k = 3
  · subst hk
    have hs := str_eq s x
    obtain ⟨c, hc⟩ : ∃ c, decide (s = x) = c := ⟨_, rfl⟩
    rw [hc] at hs ⊢
    clear hc
    have e1 : (decide ((3 : Int) = 3) && c) = c := by simp
    rw [e1]
    clear e1
    go_enter Try.func26, Try.ntmps26
    go_wp2_with fail
    go_ret
    exact ⟨rfl, (Ext.refl w).alloc _⟩
  · have hk1 : (k == 3) = false := by simpa using hk
    rw [decide_eq_false hk, Bool.false_and]
    clear hk
    go_enter Try.func26, Try.ntmps26
    go_wp2_with fail
    go_ret
    exact ⟨rfl, (Ext.refl w).alloc _⟩

end Go.Proofs.Ytdimmomjildpcaa
