/- Numbers: strconv.FormatInt at base 10, off the kit's shelf; the program's text of a whole number. -/
import Derived.Test.YtlpifchimnnfdaaDoorNmShelf
import Derived.Test.YtlpifchimnnfdaaDoorNmTab10
import Derived.Test.YtlpifchimnnfdaaDoorNmDcl
import Derived.Lib.ItoaNum
import Derived.WalkSmall
namespace Go.Proofs.YtlpifchimnnfdaaDoor
open Go.RowKit
attribute [local irreducible] Ext
attribute [local go_sem] run_store_float

theorem arr_append (a b : List UInt8) : (⟨(a ++ b).toArray⟩ : ByteArray) = ⟨a.toArray⟩ ++ ⟨b.toArray⟩ := by
  apply ByteArray.ext
  rw [ByteArray.data_append]
  simp

theorem dec_digits : ∀ (k u : Nat), u < k → (⟨(Lib.decDigits u).toArray⟩ : ByteArray) = decS u (nd u) := by
  intro k
  induction k with
  | zero => intro u h; omega
  | succ k ih =>
    intro u h
    by_cases h10 : u < 10
    · rw [Lib.decDigits_one h10, nd_small h10, decS_one h10]
    · have hb := nd_big (u := u) (by omega)
      rw [Lib.decDigits, dif_neg h10, arr_append, ih (u / 10) (by omega), hb]
      exact decS_snoc u (nd (u / 10))

theorem itoa_dcl (n : Int) : (⟨(Lib.itoa n).toArray⟩ : ByteArray) = dclS n := by
  unfold Lib.itoa dclS
  split
  · rw [show (45 :: Lib.decDigits n.natAbs) = [45] ++ Lib.decDigits n.natAbs from rfl, arr_append, dec_digits _ _ (Nat.lt_succ_self _)]
  · rw [dec_digits _ _ (Nat.lt_succ_self _), show n.toNat = n.natAbs by omega]

theorem ext_grow (w : World) (os : Array Obj) : Ext w (Go.Sort.grow w os) := by
  unfold Ext
  refine ⟨rfl, rfl, rfl, by simp, fun k hk _ => ?_⟩
  show (w.heap ++ os)[k]? = w.heap[k]?
  rw [Array.getElem?_append_left hk]

theorem fmtInt_any (n : Int) (hn : -9223372036854775808 ≤ n ∧ n ≤ 9223372036854775807) (w : World) (hL : Lib.TabIs Tryd.prog w "internal/strconv.uint64pow10" .u64 Lib.pow10Tab) :
    Calls Tryd.prog 73 #[.int .i64 n, .int .i64 10] w fun e w' => e = .returned (.string (dclS n)) ∧ Ext w w' := by
  refine (Tryd.strconv_FormatInt_10 n hn.1 hn.2 w hL).mono ?_
  rintro e w' ⟨rfl, k, os, rfl⟩
  exact ⟨by rw [itoa_dcl], ((Ext.refl w).drewN k).trans (ext_grow _ _)⟩

set_option maxRecDepth 100000 in
set_option maxHeartbeats 4000000 in
theorem text_int (n : Int) (hn : -9223372036854775808 ≤ n ∧ n ≤ 9223372036854775807) (f : Nat) (s : ByteArray) (so : Option Addr) (m cap : Nat) (w : World) (hL : Lib.TabIs Tryd.prog w "internal/strconv.uint64pow10" .u64 Lib.pow10Tab) :
    Calls Tryd.prog 47 #[.agg #[.int .i64 1, .int .i64 n, .float .f64 f, .string s, .slice so m cap]] w fun e w' => e = .returned (.string (dclS n)) ∧ Ext w w' := by
  have hE1 := (Ext.refl w).alloc (.cells #[.int .i64 1, .int .i64 n, .float .f64 f, .string s, .slice so m cap] 27)
  have hB1 := RBox.new w 1 n f s so m cap
  obtain ⟨w1, hw1⟩ : ∃ w1, w.alloc (.cells #[.int .i64 1, .int .i64 n, .float .f64 f, .string s, .slice so m cap] 27) = w1 := ⟨_, rfl⟩
  rw [hw1] at hE1 hB1
  obtain ⟨c0, c1, c2, c3, c4⟩ := hB1.cells
  have HW1 := Lib.hid hw1
  have HE := Lib.hid hE1
  have H := Lib.hid (fun W hW => fmtInt_any n hn W hW)
  have HT := Lib.hid (tab_ext hL hE1)
  clear hE1 hB1 hw1 hn hL
  go_enter Tryd.func47, Tryd.ntmps47
  go_upto_region 1 with (fail)
  rw [HW1.out]
  go_wp2_with (first
    | (go_at_call 73
       (with_reducible refine (H.out _ (by first | exact HT.out | exact tab_ext HT.out (Ext.drewN (Ext.refl _) _))).mono ?_)
       rintro e w3 ⟨rfl, hE3⟩)
    | fail)
  exact bodyPost_ret (v := .string (dclS n)) (by simp [results, Tryd.f47, go_sem]) rfl ⟨rfl, HE.out.trans hE3⟩

theorem text_any (k n : Int) (hn : -9223372036854775808 ≤ n ∧ n ≤ 9223372036854775807) (f : Nat) (hf : f < 18446744073709551616) (s : ByteArray) (so : Option Addr) (m cap : Nat) (w : World) (ht : Tab4 w) (hL : Lib.TabIs Tryd.prog w "internal/strconv.uint64pow10" .u64 Lib.pow10Tab) :
    Calls Tryd.prog 47 #[.agg #[.int .i64 k, .int .i64 n, .float .f64 f, .string s, .slice so m cap]] w fun e w' => e = .returned (.string (if k = 1 then dclS n else textF f)) ∧ Ext w w' := by
  by_cases hk : k = 1
  · subst hk
    rw [if_pos rfl]
    exact text_int n hn f s so m cap w hL
  · rw [if_neg hk]
    exact text_float k n hk f hf s so m cap w ht

end Go.Proofs.YtlpifchimnnfdaaDoor
