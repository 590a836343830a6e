/- 'known' of the layer of links. -/
import Derived.Test.YtoofhccjjhhipaaVStepP
namespace Go.Proofs.Ytoofhccjjhhipaa
open Go.RowKit
attribute [local irreducible] Ext

/-- The table alone, and what lay before lies as it lay. -/
def LInv (W w : World) (lb tb : Nat) (K : List (Int × (Int × Int × Int))) (ids : Int) : Prop := LT w lb tb K ids ∧ Mod (fun _ => False) W w ∧ W.heap.size ≤ lb ∧ W.heap.size ≤ tb

theorem LInv.post {W w w' : World} {lb tb : Nat} {K K' : List (Int × (Int × Int × Int))} {ids ids' : Int} (h : LInv W w lb tb K ids) (hP : LPost w w' lb tb K' ids') : LInv W w' lb tb K' ids' :=
  ⟨hP.1, h.2.1.trans hP.2 (fun k hk e => by have h1 := h.2.2.1; have h2 := h.2.2.2; rcases e with e | e <;> omega), h.2.2⟩

theorem li_link {W w : World} {lb tb : Nat} {K : List (Int × (Int × Int × Int))} {ids : Int} (h : LInv W w lb tb K ids) (pid : Int) (hm : K.length ≤ 1000000) {q : Bool} {K' : List (Int × (Int × Int × Int))} (hq : (!decide ((lookR K pid).1.2.1 = 1)) = q) (hK : (if (lookR K pid).1.2.1 = 1 then K else ins pid (pid, 1, 0) K) = K') :
    Calls Try.prog 25 #[.pointer (some ⟨lb, 0, none⟩), .int .i64 pid] w fun e w' => e = .returned (.bool q) ∧ LInv W w' lb tb K' ids := by
  subst hq hK
  exact (link_any pid w h.1 hm).mono fun _ _ hp => ⟨hp.1, h.post hp.2⟩

theorem li_unlink1 {W w : World} {lb tb : Nat} {K : List (Int × (Int × Int × Int))} {ids : Int} (h : LInv W w lb tb K ids) (pid : Int) (hm : K.length ≤ 1000000) (hs : (lookR K pid).1.2.1 = 1) {n : Int} {K' : List (Int × (Int × Int × Int))} (hn : IntKind.i64.wrap (ids + 1) = n) (hK : ins pid (pid, 2, n) K = K') :
    Calls Try.prog 10 #[.pointer (some ⟨lb, 0, none⟩), .int .i64 pid] w fun e w' => e = .returned (.tuple #[.int .i64 n, .bool true]) ∧ LInv W w' lb tb K' n := by
  subst hn hK
  refine (unlink_any pid w h.1 hm).mono fun _ _ hp => ?_
  simp only [if_pos hs] at hp
  exact ⟨hp.1, h.post hp.2⟩

theorem li_unlink0 {W w : World} {lb tb : Nat} {K : List (Int × (Int × Int × Int))} {ids : Int} (h : LInv W w lb tb K ids) (pid : Int) (hm : K.length ≤ 1000000) (hs : (lookR K pid).1.2.1 ≠ 1) :
    Calls Try.prog 10 #[.pointer (some ⟨lb, 0, none⟩), .int .i64 pid] w fun e w' => e = .returned (.tuple #[.int .i64 0, .bool false]) ∧ LInv W w' lb tb K ids := by
  refine (unlink_any pid w h.1 hm).mono fun _ _ hp => ?_
  simp only [if_neg hs] at hp
  exact ⟨hp.1, h.post hp.2⟩

theorem li_onAck {W w : World} {lb tb : Nat} {K : List (Int × (Int × Int × Int))} {ids : Int} (h : LInv W w lb tb K ids) (pid id : Int) (hm : K.length ≤ 1000000) {q : Bool} {K' : List (Int × (Int × Int × Int))} (hq : decide ((lookR K pid).1.2.1 = 2 ∧ (lookR K pid).1.2.2 = id) = q) (hK : (if (lookR K pid).1.2.1 = 2 ∧ (lookR K pid).1.2.2 = id then del pid K else K) = K') :
    Calls Try.prog 26 #[.pointer (some ⟨lb, 0, none⟩), .int .i64 pid, .int .i64 id] w fun e w' => e = .returned (.bool q) ∧ LInv W w' lb tb K' ids := by
  subst hq hK
  exact (onAck_any pid id w h.1 hm).mono fun _ _ hp => ⟨hp.1, h.post hp.2⟩

set_option maxRecDepth 100000 in
set_option maxHeartbeats 1000000 in
theorem lknown_any (w : World) : Calls Try.prog 7 #[] w fun e w' => e = .returned (.bool true) ∧ Mod (fun _ => False) w w' := by
  have k1 : ∀ {lb tb : Nat} {w' : World}, LInv w w' lb tb [] 0 → Calls Try.prog 25 #[.pointer (some ⟨lb, 0, none⟩), .int .i64 2] w' fun e w'' => e = .returned (.bool true) ∧ LInv w w'' lb tb [(2, 2, 1, 0)] 0 := fun h => li_link h 2 (by decide) rfl rfl
  have k2 : ∀ {lb tb : Nat} {w' : World}, LInv w w' lb tb [(2, 2, 1, 0)] 0 → Calls Try.prog 25 #[.pointer (some ⟨lb, 0, none⟩), .int .i64 2] w' fun e w'' => e = .returned (.bool false) ∧ LInv w w'' lb tb [(2, 2, 1, 0)] 0 := fun h => li_link h 2 (by decide) rfl rfl
  have k3 : ∀ {lb tb : Nat} {w' : World}, LInv w w' lb tb [(2, 2, 1, 0)] 0 → Calls Try.prog 10 #[.pointer (some ⟨lb, 0, none⟩), .int .i64 2] w' fun e w'' => e = .returned (.tuple #[.int .i64 1, .bool true]) ∧ LInv w w'' lb tb [(2, 2, 2, 1)] 1 := fun h => li_unlink1 h 2 (by decide) rfl (by decide) rfl
  have k4 : ∀ {lb tb : Nat} {w' : World}, LInv w w' lb tb [(2, 2, 2, 1)] 1 → Calls Try.prog 10 #[.pointer (some ⟨lb, 0, none⟩), .int .i64 2] w' fun e w'' => e = .returned (.tuple #[.int .i64 0, .bool false]) ∧ LInv w w'' lb tb [(2, 2, 2, 1)] 1 := fun h => li_unlink0 h 2 (by decide) (by decide)
  have k5 : ∀ {lb tb : Nat} {w' : World}, LInv w w' lb tb [(2, 2, 2, 1)] 1 → Calls Try.prog 25 #[.pointer (some ⟨lb, 0, none⟩), .int .i64 2] w' fun e w'' => e = .returned (.bool true) ∧ LInv w w'' lb tb [(2, 2, 1, 0)] 1 := fun h => li_link h 2 (by decide) rfl rfl
  have k6 : ∀ {lb tb : Nat} {w' : World}, LInv w w' lb tb [(2, 2, 1, 0)] 1 → Calls Try.prog 26 #[.pointer (some ⟨lb, 0, none⟩), .int .i64 2, .int .i64 1] w' fun e w'' => e = .returned (.bool false) ∧ LInv w w'' lb tb [(2, 2, 1, 0)] 1 := fun h => li_onAck h 2 1 (by decide) rfl rfl
  have k7 : ∀ {lb tb : Nat} {w' : World}, LInv w w' lb tb [(2, 2, 1, 0)] 1 → Calls Try.prog 10 #[.pointer (some ⟨lb, 0, none⟩), .int .i64 2] w' fun e w'' => e = .returned (.tuple #[.int .i64 2, .bool true]) ∧ LInv w w'' lb tb [(2, 2, 2, 2)] 2 := fun h => li_unlink1 h 2 (by decide) rfl (by decide) rfl
  have k8 : ∀ {lb tb : Nat} {w' : World}, LInv w w' lb tb [(2, 2, 2, 2)] 2 → Calls Try.prog 26 #[.pointer (some ⟨lb, 0, none⟩), .int .i64 2, .int .i64 1] w' fun e w'' => e = .returned (.bool false) ∧ LInv w w'' lb tb [(2, 2, 2, 2)] 2 := fun h => li_onAck h 2 1 (by decide) rfl rfl
  have k9 : ∀ {lb tb : Nat} {w' : World}, LInv w w' lb tb [(2, 2, 2, 2)] 2 → Calls Try.prog 26 #[.pointer (some ⟨lb, 0, none⟩), .int .i64 2, .int .i64 2] w' fun e w'' => e = .returned (.bool true) ∧ LInv w w'' lb tb [] 2 := fun h => li_onAck h 2 2 (by decide) rfl rfl
  go_enter Try.func7, Try.ntmps7
  go_wp2_with fail
  refine (lnew_any _).mono ?_
  rintro e w1 ⟨lb, tb, rfl, h1, hE1, hlb, htb⟩
  have h2 : LInv w w1 lb tb [] 0 := ⟨h1, mod_of_ext hE1, hlb, htb⟩
  clear h1 hE1 hlb htb
  go_wp2_with fail
  refine (k1 h2).mono ?_
  rintro e w2 ⟨rfl, h3⟩
  clear h2 k1
  go_wp2_with fail
  refine (k2 h3).mono ?_
  rintro e w3 ⟨rfl, h4⟩
  clear h3 k2
  go_wp2_with fail
  refine (k3 h4).mono ?_
  rintro e w4 ⟨rfl, h5⟩
  clear h4 k3
  go_wp2_with fail
  refine (k4 h5).mono ?_
  rintro e w5 ⟨rfl, h6⟩
  clear h5 k4
  go_wp2_with fail
  refine (k5 h6).mono ?_
  rintro e w6 ⟨rfl, h7⟩
  clear h6 k5
  go_wp2_with fail
  refine (k6 h7).mono ?_
  rintro e w7 ⟨rfl, h8⟩
  clear h7 k6
  go_wp2_with fail
  refine (k7 h8).mono ?_
  rintro e w8 ⟨rfl, h9⟩
  clear h8 k7
  go_wp2_with fail
  refine (k8 h9).mono ?_
  rintro e w9 ⟨rfl, h10⟩
  clear h9 k8
  go_wp2_with fail
  refine (k9 h10).mono ?_
  rintro e w10 ⟨rfl, h11⟩
  have H11 := Lib.hid h11
  clear h10 k9 h11
  go_wp2_with fail
  go_ret
  exact ⟨rfl, H11.out.2.1⟩

end Go.Proofs.Ytoofhccjjhhipaa
