/- Least; 'known' of the tree layer; what a sequence hands on, of a sorted tree. -/
import Derived.Test.YtpkapfhfnnfomaaTreeLaw
namespace Go.Proofs.Ytpkapfhfnnfomaa
open Go.RowKit
attribute [local irreducible] Ext

theorem overL_filter {t : Tr Int} (key : Int) (h : t.sorted) : overL key t = t.list.filter (fun x => decide (key ≤ x.1)) := by
  induction t with
  | nil => rfl
  | node l k v r ihl ihr =>
    obtain ⟨h1, h2, h3, h4⟩ := h
    simp only [overL, Tr.list, List.filter_append, List.filter_cons]
    split
    · rename_i hk
      have e : l.list.filter (fun x => decide (key ≤ x.1)) = [] := List.filter_eq_nil_iff.2 (fun x hx => by have := h3 x hx; simp only [decide_eq_true_eq]; omega)
      rw [ihr h2, e]
      simp [show ¬ key ≤ k by omega]
    · rename_i hk
      rw [ihl h1, ihr h2]
      simp [show key ≤ k by omega]

theorem overL_all {t : Tr Int} {key : Int} (h : t.sorted) (hk : ∀ x ∈ t.list, key ≤ x.1) : overL key t = t.list := by
  rw [overL_filter key h]
  exact List.filter_eq_self.2 fun x hx => by simpa using hk x hx

def pa : Nat → Int
  | 0 => 1
  | n + 1 => Tr.want n + 1

theorem pa_step (n : Nat) : pa n + (Tr.want n + 1) = Tr.want (n + 1) + 1 := by
  cases n with
  | zero => rfl
  | succ n => simp only [pa, Tr.want]; omega

set_option maxHeartbeats 1000000 in
theorem least_of (h : Int) (w : World) (h0 : 0 ≤ h) (h64 : h ≤ 64) :
    Calls Try.prog 11 #[.int .i64 h] w fun e w' => e = .returned (.int .i64 (Tr.want h.toNat)) ∧ w = w' := by
  have hmost : Tr.want 64 < 1000000000000000 := by decide +kernel
  obtain ⟨H, rfl⟩ : ∃ H : Nat, h = H := ⟨h.toNat, by omega⟩
  simp only [Int.toNat_natCast]
  go_enter Try.func11, Try.ntmps11
  go_wp2_with fail
  go_loopg [3, 4, 5] H (fun g a b i wr => w = wr ∧ ∃ n : Nat, n + g = H ∧ a = .int .i64 (pa n) ∧ b = .int .i64 (Tr.want n + 1) ∧ i = .int .i64 n)
  case atStart => exact ⟨rfl, 0, by omega, rfl, rfl, rfl⟩
  case round =>
    obtain ⟨rfl, n, hn, rfl, rfl, rfl⟩ := hrel
    have hw := Tr.want_mono (show n ≤ 64 by omega)
    have hw0 := (Tr.want_step n).1
    have hlt : Tr.want n + 1 < 1152921504606846976 := by omega
    by_cases hc : (n : Int) < (H : Int)
    · have hs := pa_step n
      have hw1 := Tr.want_mono (show n + 1 ≤ 64 by omega)
      have e1 : IntKind.i64.wrap (pa n + (Tr.want n + 1)) = Tr.want (n + 1) + 1 := by rw [hs]; exact IntWalk.i64_in _ (by have := (Tr.want_step (n + 1)).1; omega)
      have e2 : IntKind.i64.wrap ((n : Int) + 1) = ((n + 1 : Nat) : Int) := by rw [IntWalk.i64_in _ (by omega)]; rfl
      clear hw hw0 hs hw1 hmost
      go_wp2_with fail
      go_roundg (H - n - 1)
      case measure => omega
      case rel => exact ⟨rfl, n + 1, by omega, rfl, rfl, rfl⟩
    · obtain rfl : n = H := by omega
      have e1 : wrap64 (Tr.want n) = Tr.want n := IntWalk.wrap64_in _ (by omega)
      clear hw hw0 hmost hc
      go_wp2_with fail
      go_ret
      exact ⟨by simp [e1], rfl⟩

set_option maxHeartbeats 1000000 in
theorem known_any (w : World) : Calls Try.prog 7 #[] w fun e w' => e = .returned (.bool true) ∧ Mod (fun _ => False) w w' := by
  have h2 : ∀ {b : Nat} {w : World}, TreeAt w b .nil → Calls Try.prog 9 #[.pointer (some ⟨b, 0, none⟩), .int .i64 1, .int .i64 7] w fun e w' => e = .returned (.bool true) ∧ TreeAt w' b (.node .nil 1 7 .nil) ∧ Mod (fun k => k = b) w w' :=
    fun ht => putT_any 1 7 _ ht (by decide)
  have h3 : ∀ {b : Nat} {w : World}, TreeAt w b (.node .nil 1 7 .nil) → Calls Try.prog 9 #[.pointer (some ⟨b, 0, none⟩), .int .i64 1, .int .i64 8] w fun e w' => e = .returned (.bool false) ∧ TreeAt w' b (.node .nil 1 8 .nil) ∧ Mod (fun k => k = b) w w' :=
    fun ht => putT_any 1 8 _ ht (by decide)
  have h4 : ∀ {b : Nat} {w : World}, TreeAt w b (.node .nil 1 8 .nil) → Calls Try.prog 18 #[.pointer (some ⟨b, 0, none⟩), .int .i64 1] w fun e w' => e = .returned (.tuple #[.int .i64 8, .bool true]) ∧ w = w' :=
    fun ht => get_any 1 _ ht
  have h5 : ∀ {b : Nat} {w : World}, TreeAt w b (.node .nil 1 8 .nil) → Calls Try.prog 13 #[.pointer (some ⟨b, 0, none⟩), .int .i64 1] w fun e w' => e = .returned (.bool true) ∧ TreeAt w' b .nil ∧ Mod (fun k => k = b) w w' :=
    fun ht => dropT_any 1 _ ht (by decide) ⟨trivial, trivial, (fun _ h => by cases h), (fun _ h => by cases h)⟩
  have h6 : ∀ {b : Nat} {w : World}, TreeAt w b .nil → Calls Try.prog 13 #[.pointer (some ⟨b, 0, none⟩), .int .i64 1] w fun e w' => e = .returned (.bool false) ∧ TreeAt w' b .nil ∧ Mod (fun k => k = b) w w' :=
    fun ht => dropT_any 1 _ ht (by decide) trivial
  have h7 : ∀ {b : Nat} {w : World}, TreeAt w b .nil → Calls Try.prog 10 #[.pointer (some ⟨b, 0, none⟩)] w fun e w' => e = .returned (.int .i64 0) ∧ w = w' := fun ht => len_any _ ht
  have h8 : ∀ {b : Nat} {w : World}, TreeAt w b .nil → Calls Try.prog 12 #[.pointer (some ⟨b, 0, none⟩)] w fun e w' => e = .returned (.int .i64 0) ∧ w = w' := fun ht => height_any _ ht
  go_enter Try.func7, Try.ntmps7
  go_wp2_with fail
  refine (new_any _).mono ?_
  rintro e w1 ⟨rfl, t1, m1⟩
  go_wp2_with fail
  refine (h2 t1).mono ?_
  rintro e w2 ⟨rfl, t2, m2⟩
  go_wp2_with fail
  refine (h3 t2).mono ?_
  rintro e w3 ⟨rfl, t3, m3⟩
  go_wp2_with (go_at_call 18; (with_reducible refine (h4 t3).mono ?_); rintro e w' ⟨rfl, rfl⟩)
  refine (h5 t3).mono ?_
  rintro e w4 ⟨rfl, t4, m4⟩
  go_wp2_with fail
  refine (h6 t4).mono ?_
  rintro e w5 ⟨rfl, t5, m5⟩
  go_wp2_with (first
    | (go_at_call 10; (with_reducible refine (h7 t5).mono ?_); rintro e w' ⟨rfl, rfl⟩)
    | (go_at_call 12; (with_reducible refine (h8 t5).mono ?_); rintro e w' ⟨rfl, rfl⟩))
  go_ret
  refine ⟨rfl, ?_⟩
  have h : Mod (fun k => k = w.heap.size) w1 w5 := ((m2.trans m3 (fun _ _ h => h)).trans m4 (fun _ _ h => h)).trans m5 (fun _ _ h => h)
  unfold Ext at m1
  exact m1.trans h (fun i hi e => by omega)

end Go.Proofs.Ytpkapfhfnnfomaa
