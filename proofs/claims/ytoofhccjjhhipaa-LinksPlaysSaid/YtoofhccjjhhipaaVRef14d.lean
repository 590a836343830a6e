/- The document's half-links: OnExit, OnAck, Unlink. -/
import Derived.Test.YtoofhccjjhhipaaVRef14c
namespace Go.Proofs.Ytoofhccjjhhipaa
open Go.RowKit
attribute [local irreducible] Ext

theorem KL_del {L : List (Int × Int × Int)} {pid : Int} {i : Nat} {x : (Int × Int × Int)} (hx : L[i]? = some x) (hp : place pid (KL L) = i) (hk : x.1 = pid) : del pid (KL L) = KL (L.eraseIdx i) := by
  rw [del_place (a := (x.1, x)) (by rw [hp]; exact KL_at hx) hk, hp]
  unfold KL
  rw [map_erase]

theorem Post14.after {w wa w' : World} {b : Nat} {v : Value} {last : Int} {K : List (Int × (Int × Int × Int))} (hE : Ext w wa) (h : Post14 wa w' b v last K) (w2 : World) (hE2 : Ext w' w2) : Post14 w w2 b v last K := by
  obtain ⟨v', L', h1, h2, h3, h4⟩ := h.ahead hE
  refine ⟨v', L', h1.ext hE2, h2, h3.trans (mod_of_ext hE2) (fun _ _ h => h), h4⟩

set_option maxRecDepth 100000 in
set_option maxHeartbeats 1000000 in
theorem onExit14_any {b : Nat} {v : Value} {L : List (Int × Int × Int)} {last : Int} (pid : Int) (w : World) (h : R14 w b v L last) (hL : L.length ≤ 1000000) (hr : Rising (KL L)) :
    Calls Try.prog 32 #[.pointer (some ⟨b, 0, none⟩), .int .i64 pid] w fun e w' => e = .returned (.bool (decide ((lookR (KL L) pid).1.2.1 = 1))) ∧ Post14 w w' b v last (if (lookR (KL L) pid).1.2.1 = 1 then del pid (KL L) else KL L) := by
  have hf := find14_any pid w h (by omega)
  rcases cases14 pid hr with ⟨i, x, hx, hp, hk, ht, hl⟩ | ⟨ht, hl⟩
  · rw [hp, ht] at hf
    rw [hl, KL_del hx hp hk]
    have hin := (List.getElem?_eq_some_iff.1 hx).1
    have hi : (i : Int) < (L.length : Int) := by omega
    have s0 : (0 : Int) ≤ (i : Int) := by omega
    have HH := Lib.hid h
    have HX := Lib.hid hx
    clear h hr ht hl hp hk hx
    dsimp only
    by_cases h1 : x.2.1 = 1
    · rw [if_pos h1]
      have h2 : (x.2.1 == 1) = true := beq_iff_eq.2 h1
      have h2n : (x.2.1 != 1) = false := by rw [bne, h2]; rfl
      have h3 : decide (x.2.1 = 1) = true := decide_eq_true h1
      clear h1
      go_enter Try.func32, Try.ntmps32
      go_wp2_with (go_at_call 40; (with_reducible refine hf.mono ?_); rintro e wa ⟨rfl, hEa⟩; obtain ⟨c0, c1, d0, d1⟩ := (HH.out.ext hEa).cells; obtain ⟨ga, capa, hv, hcap, q0, q1, q2⟩ := (HH.out.ext hEa).row.at_ HX.out; rw [hv] at c0; have HEa := Lib.hid hEa; have HV := Lib.hid hv; clear hv hEa)
      refine (drop14 _ (HH.out.ext HEa.out) hL hin).mono ?_
      rintro e w2 ⟨⟨u, rfl⟩, hP⟩
      have HP := Lib.hid (hP.ahead HEa.out)
      clear hP
      go_wp2_with fail
      go_ret
      exact ⟨by rw [h3]; rfl, HP.out⟩
    · rw [if_neg h1]
      have h2 : (x.2.1 == 1) = false := beq_eq_false_iff_ne.2 h1
      have h2n : (x.2.1 != 1) = true := by rw [bne, h2]; rfl
      have h3 : decide (x.2.1 = 1) = false := decide_eq_false h1
      clear h1
      go_enter Try.func32, Try.ntmps32
      go_wp2_with (go_at_call 40; (with_reducible refine hf.mono ?_); rintro e wa ⟨rfl, hEa⟩; obtain ⟨c0, c1, d0, d1⟩ := (HH.out.ext hEa).cells; obtain ⟨ga, capa, hv, hcap, q0, q1, q2⟩ := (HH.out.ext hEa).row.at_ HX.out; rw [hv] at c0; have HEa := Lib.hid hEa; have HV := Lib.hid hv; clear hv hEa)
      go_ret
      exact ⟨by rw [h3]; rfl, Post14.same HH.out HEa.out⟩
  · rw [ht] at hf
    rw [hl]
    dsimp only
    rw [if_neg (by decide)]
    obtain ⟨i, hi⟩ : ∃ i, place pid (KL L) = i := ⟨_, rfl⟩
    rw [hi] at hf
    have HH := Lib.hid h
    clear h hr ht hl hi
    go_enter Try.func32, Try.ntmps32
    go_wp2_with (go_at_call 40; (with_reducible refine hf.mono ?_); rintro e wa ⟨rfl, hEa⟩; have HEa := Lib.hid hEa; clear hEa)
    go_ret
    exact ⟨rfl, Post14.same HH.out HEa.out⟩

set_option maxRecDepth 100000 in
set_option maxHeartbeats 1000000 in
theorem onAck14_any {b : Nat} {v : Value} {L : List (Int × Int × Int)} {last : Int} (pid id : Int) (w : World) (h : R14 w b v L last) (hL : L.length ≤ 1000000) (hr : Rising (KL L)) :
    Calls Try.prog 33 #[.pointer (some ⟨b, 0, none⟩), .int .i64 pid, .int .i64 id] w fun e w' =>
      e = .returned (.bool (decide ((lookR (KL L) pid).1.2.1 = 2 ∧ (lookR (KL L) pid).1.2.2 = id))) ∧ Post14 w w' b v last (if (lookR (KL L) pid).1.2.1 = 2 ∧ (lookR (KL L) pid).1.2.2 = id then del pid (KL L) else KL L) := by
  have hf := find14_any pid w h (by omega)
  rcases cases14 pid hr with ⟨i, x, hx, hp, hk, ht, hl⟩ | ⟨ht, hl⟩
  · rw [hp, ht] at hf
    rw [hl, KL_del hx hp hk]
    have hin := (List.getElem?_eq_some_iff.1 hx).1
    have hi : (i : Int) < (L.length : Int) := by omega
    have s0 : (0 : Int) ≤ (i : Int) := by omega
    have HH := Lib.hid h
    have HX := Lib.hid hx
    clear h hr ht hl hp hk hx
    dsimp only
    by_cases h1 : x.2.1 = 2
    · have h2 : (x.2.1 == 2) = true := beq_iff_eq.2 h1
      have h2n : (x.2.1 != 2) = false := by rw [bne, h2]; rfl
      have h2' : decide (x.2.1 = 2) = true := decide_eq_true h1
      by_cases h4 : x.2.2 = id
      · rw [if_pos ⟨h1, h4⟩]
        have h5 : (x.2.2 == id) = true := beq_iff_eq.2 h4
        have h5n : (x.2.2 != id) = false := by rw [bne, h5]; rfl
        have h5' : decide (x.2.2 = id) = true := decide_eq_true h4
        have h3 : decide (x.2.1 = 2 ∧ x.2.2 = id) = true := decide_eq_true ⟨h1, h4⟩
        clear h1 h4
        go_enter Try.func33, Try.ntmps33
        go_wp2_with (go_at_call 40; (with_reducible refine hf.mono ?_); rintro e wa ⟨rfl, hEa⟩; obtain ⟨c0, c1, d0, d1⟩ := (HH.out.ext hEa).cells; obtain ⟨ga, capa, hv, hcap, q0, q1, q2⟩ := (HH.out.ext hEa).row.at_ HX.out; rw [hv] at c0; have HEa := Lib.hid hEa; have HV := Lib.hid hv; clear hv hEa)
        refine (drop14 _ (HH.out.ext HEa.out) hL hin).mono ?_
        rintro e w2 ⟨⟨u, rfl⟩, hP⟩
        have HP := Lib.hid (hP.ahead HEa.out)
        clear hP
        go_wp2_with fail
        go_ret
        exact ⟨by rw [h3]; rfl, HP.out⟩
      · rw [if_neg (fun h => h4 h.2)]
        have h5 : (x.2.2 == id) = false := beq_eq_false_iff_ne.2 h4
        have h5n : (x.2.2 != id) = true := by rw [bne, h5]; rfl
        have h5' : decide (x.2.2 = id) = false := decide_eq_false h4
        have h3 : decide (x.2.1 = 2 ∧ x.2.2 = id) = false := decide_eq_false (fun h => h4 h.2)
        clear h1 h4
        go_enter Try.func33, Try.ntmps33
        go_wp2_with (go_at_call 40; (with_reducible refine hf.mono ?_); rintro e wa ⟨rfl, hEa⟩; obtain ⟨c0, c1, d0, d1⟩ := (HH.out.ext hEa).cells; obtain ⟨ga, capa, hv, hcap, q0, q1, q2⟩ := (HH.out.ext hEa).row.at_ HX.out; rw [hv] at c0; have HEa := Lib.hid hEa; have HV := Lib.hid hv; clear hv hEa)
        go_ret
        exact ⟨by rw [h3]; rfl, Post14.same HH.out HEa.out⟩
    · rw [if_neg (fun h => h1 h.1)]
      have h2 : (x.2.1 == 2) = false := beq_eq_false_iff_ne.2 h1
      have h2n : (x.2.1 != 2) = true := by rw [bne, h2]; rfl
      have h2' : decide (x.2.1 = 2) = false := decide_eq_false h1
      have h3 : decide (x.2.1 = 2 ∧ x.2.2 = id) = false := decide_eq_false (fun h => h1 h.1)
      clear h1
      go_enter Try.func33, Try.ntmps33
      go_wp2_with (go_at_call 40; (with_reducible refine hf.mono ?_); rintro e wa ⟨rfl, hEa⟩; obtain ⟨c0, c1, d0, d1⟩ := (HH.out.ext hEa).cells; obtain ⟨ga, capa, hv, hcap, q0, q1, q2⟩ := (HH.out.ext hEa).row.at_ HX.out; rw [hv] at c0; have HEa := Lib.hid hEa; have HV := Lib.hid hv; clear hv hEa)
      go_ret
      exact ⟨by rw [h3]; rfl, Post14.same HH.out HEa.out⟩
  · rw [ht] at hf
    rw [hl]
    dsimp only
    rw [if_neg (fun h => absurd h.1 (by decide))]
    have h3 : decide ((0 : Int) = 2 ∧ (0 : Int) = id) = false := decide_eq_false (fun h => absurd h.1 (by decide))
    rw [h3]
    obtain ⟨i, hi⟩ : ∃ i, place pid (KL L) = i := ⟨_, rfl⟩
    rw [hi] at hf
    have HH := Lib.hid h
    clear h hr ht hl hi h3
    go_enter Try.func33, Try.ntmps33
    go_wp2_with (go_at_call 40; (with_reducible refine hf.mono ?_); rintro e wa ⟨rfl, hEa⟩; have HEa := Lib.hid hEa; clear hEa)
    go_ret
    exact ⟨rfl, Post14.same HH.out HEa.out⟩

end Go.Proofs.Ytoofhccjjhhipaa
