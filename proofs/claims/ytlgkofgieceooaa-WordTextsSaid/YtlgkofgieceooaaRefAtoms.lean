/- Walks of the document's Atoms, and of the small methods of both. -/
import Derived.Test.YtlgkofgieceooaaKnown3
namespace Go.Proofs.Ytlgkofgieceooaa
open Go.RowKit

/-- Block b is the document's table of the texts L, whose slice is sv. -/
structure RefAtomsAt (w : World) (b : Nat) (sv : Value) (L : List ByteArray) : Prop where
  blk : w.heap[b]? = some (.cells #[sv] 49 (0, 0))
  row : w.ownsRow 0 9 1 sv L.length (L.map Value.string)

theorem take_succ_not {L : List ByteArray} {k : Nat} {x s : ByteArray} (hx : L[k]? = some x) (h : s ∉ L.take k) (hne : x ≠ s) : s ∉ L.take (k + 1) := by
  rw [List.take_add_one, hx]
  simp only [Option.toList_some, List.mem_append, List.mem_singleton]
  rintro (h1 | h1)
  · exact h h1
  · exact hne h1.symm

theorem idx_first {L : List ByteArray} {k : Nat} {s : ByteArray} (hx : L[k]? = some s) (h : s ∉ L.take k) : s ∈ L ∧ L.idxOf s = k := by
  have hm : s ∈ L := List.mem_of_getElem? hx
  refine ⟨hm, ?_⟩
  have hk : k < L.length := (List.getElem?_eq_some_iff.1 hx).1
  have e : L = L.take k ++ s :: L.drop (k + 1) := by
    have h2 := List.take_append_drop k L
    rw [List.drop_eq_getElem_cons hk] at h2
    have h3 : L[k] = s := by
      have := List.getElem?_eq_getElem hk
      rw [hx] at this
      exact (Option.some.inj this).symm
    rw [h3] at h2
    exact h2.symm
  rw [e, List.idxOf_append, if_neg h]
  simp
  omega

set_option maxHeartbeats 1000000 in
theorem refNumber_any {b : Nat} {sv : Value} {L : List ByteArray} (s : ByteArray) (w : World) (ha : RefAtomsAt w b sv L) (hL : L.length ≤ 1000000000) :
    Calls Try.prog 24 #[.pointer (some ⟨b, 0, none⟩), .string s] w fun e w' => e = .returned (.tuple #[.int .i64 (numR L s).1, .int .i64 (numR L s).2]) ∧
      ∃ sv', RefAtomsAt w' b sv' (addT L s) ∧ Mod (fun k => k = b ∨ some k = sv.ownBlock) w w' ∧ (sv'.ownBlock = sv.ownBlock ∨ ∀ k, sv'.ownBlock = some k → w.heap.size ≤ k) := by
  by_cases h : 64 < s.size
  · have hR : numR L s = (0, 3) := by unfold numR; rw [if_pos h]
    have hT : addT L s = L := by unfold addT; rw [if_pos h]
    rw [hR, hT]
    have HA := Lib.hid ha
    clear hR hT ha
    go_enter Try.func24, Try.ntmps24
    go_wp2_with fail
    go_ret2
    exact ⟨rfl, sv, HA.out, .refl _ _, .inl rfl⟩
  · have h' : s.size ≤ 64 := by omega
    clear h
    obtain ⟨so, sc, rfl⟩ := own_slice ha.row
    have c0 := cell_of_heap ha.blk 0
    simp only [List.getElem?_toArray, List.getElem?_cons_zero] at c0
    have HA := Lib.hid ha
    clear ha
    go_enter Try.func24, Try.ntmps24
    go_wp2_with fail
    go_loop [6] (fun i => ∃ k : Nat, k ≤ L.length ∧ i = .int .i64 k ∧ Hid (s ∉ L.take k)) (fun i => L.length - (intOf i).toNat)
    case atStart => exact ⟨0, Nat.zero_le _, rfl, Lib.hid (by simp)⟩
    case round =>
      obtain ⟨k, hk, rfl, hnot⟩ := hrel
      by_cases hlt : k < L.length
      · obtain ⟨g, cap, x0, he, hx, hc, hc'⟩ := own_cell HA.out.row hlt
        injection he with he1 he2 he3
        subst he1
        subst he3
        obtain ⟨x, hxs, rfl⟩ : ∃ x, L[k]? = some x ∧ x0 = .string x := by
          rw [List.getElem?_map] at hx
          cases hxs : L[k]? with
          | none => simp [hxs] at hx
          | some x => simp [hxs] at hx; exact ⟨x, rfl, hx.symm⟩
        have HX := Lib.hid hxs
        clear hx hxs
        by_cases hxs : x = s
        · have hb : (x.toList == s.toList) = true := by rw [str_eq]; simp [hxs]
          have HE := Lib.hid hxs
          clear hxs
          go_wp2_with fail
          go_ret2
          have hxs := HX.out
          rw [HE.out] at hxs
          obtain ⟨hm, hi⟩ := idx_first hxs hnot.out
          have hR : numR L s = ((k : Int), 0) := by unfold numR; rw [if_neg (by omega), if_pos hm, hi]
          have hT : addT L s = L := by unfold addT; rw [if_neg (by omega), if_pos hm]
          exact ⟨by rw [hR]; rfl, _, by rw [hT]; exact HA.out, .refl _ _, .inl rfl⟩
        · have hb : (x.toList == s.toList) = false := by rw [str_eq]; simp [hxs]
          have HE := Lib.hid hxs
          clear hxs
          go_wp2_with fail
          go_round
          case rel => exact ⟨k + 1, by omega, by go_num, Lib.hid (take_succ_not HX.out hnot.out HE.out)⟩
          case measure => simp [intOf]; omega
      · have hk' : k = L.length := by omega
        subst hk'
        clear hlt
        have hm : s ∉ L := by
          have := hnot.out
          rwa [List.take_length] at this
        have HM := Lib.hid hm
        clear hm
        have hrow := HA.out.row
        obtain ⟨i, hi, hz0, hz1, hz2⟩ := info_parts info_string
        go_wp2_with (at_builtin; refine wpList_app1 _ rfl _ _ 44 rfl 0 9 i (.string ⟨#[]⟩) 16 Try.underlying44 hi hz0 hz1 hz2 rfl _ _ _ rfl hrow (.string s) rfl rfl (by omega) (by omega) (by omega) ?_)
        intro g1 sc1 w1 hrow1 hmod1 hfr
        have ha := HA.out
        have hb0 : (Value.slice so L.length sc).ownBlock ≠ some b := own_ne_elem ha.row ha.blk (by decide)
        have hblk1 := hmod1.keep ha.blk (fun h => hb0 h.symm)
        have cc0 := cell_of_heap hblk1 0
        have cf := free_of_heap hblk1 0
        simp only [List.getElem?_toArray, List.getElem?_cons_zero] at cc0
        have hg1 : g1 ≠ b := fun e => own_ne_elem hrow1 hblk1 (by decide) (by rw [e]; rfl)
        have hblk2 := heap_set (o := 0) hblk1 (.slice (some ⟨g1, 0, none⟩) (L.length + 1) sc1)
        have hrow2 : (w1.setCell ⟨b, 0, none⟩ (.slice (some ⟨g1, 0, none⟩) (L.length + 1) sc1)).ownsRow 0 9 1 (.slice (some ⟨g1, 0, none⟩) (L.length + 1) sc1) (L.length + 1) ((L ++ [s]).map Value.string) := by
          have := own_keep ((Mod.refl (fun k => k = b) w1).setCell (p := ⟨b, 0, none⟩) (.inl rfl) (.slice (some ⟨g1, 0, none⟩) (L.length + 1) sc1)) hrow1 (fun k hk e => hg1 ((Option.some.inj hk).trans e))
          simpa using this
        have hA : RefAtomsAt (w1.setCell ⟨b, 0, none⟩ (.slice (some ⟨g1, 0, none⟩) (L.length + 1) sc1)) b (.slice (some ⟨g1, 0, none⟩) (L.length + 1) sc1) (L ++ [s]) := by
          refine ⟨by simpa using hblk2, ?_⟩
          simpa using hrow2
        have hmod : Mod (fun k => k = b ∨ some k = (Value.slice so L.length sc).ownBlock) w (w1.setCell ⟨b, 0, none⟩ (.slice (some ⟨g1, 0, none⟩) (L.length + 1) sc1)) :=
          (hmod1.mono (fun _ _ h => .inr h)).setCell (p := ⟨b, 0, none⟩) (.inl (.inl rfl)) _
        have HR := Lib.hid (And.intro hA (And.intro hmod hfr))
        clear ha hblk1 hb0 hmod1 hrow1 hrow hA hmod hrow2 hblk2 hfr
        go_wp2
        go_ret2
        have hR : numR L s = (((L.length : Nat) : Int), 0) := by unfold numR; rw [if_neg (by omega), if_neg HM.out]
        have hT : addT L s = L ++ [s] := by unfold addT; rw [if_neg (by omega), if_neg HM.out]
        refine ⟨by rw [hR]; simp, _, by rw [hT]; exact HR.out.1, HR.out.2.1, ?_⟩
        rcases HR.out.2.2 with h | h
        · exact .inl h.symm
        · exact .inr fun k hk => by rw [← Option.some.inj hk]; exact h

/-- What Text tells. -/
def textR (L : List ByteArray) (n : Int) : ByteArray × Bool := if n < 0 ∨ (L.length : Int) ≤ n then (⟨#[]⟩, false) else (L.getD n.toNat ⟨#[]⟩, true)

theorem textR_at {L : List ByteArray} {k : Nat} {x : ByteArray} (h : L[k]? = some x) : textR L k = (x, true) := by
  have hk := (List.getElem?_eq_some_iff.1 h).1
  unfold textR
  rw [if_neg (by omega)]
  simp [List.getD, h]

theorem strs_at {L : List ByteArray} {k : Nat} {v : Value} (h : (L.map Value.string)[k]? = some v) : ∃ x, L[k]? = some x ∧ v = .string x := by
  rw [List.getElem?_map] at h
  cases hxs : L[k]? with
  | none => simp [hxs] at h
  | some x => simp [hxs] at h; exact ⟨x, rfl, h.symm⟩

set_option maxHeartbeats 1000000 in
theorem text_any {b m : Nat} {sv : Value} {L : List ByteArray} (n : Int) (w : World) (ha : AtomsAt w b m sv L) :
    Calls Try.prog 26 #[.pointer (some ⟨b, 0, none⟩), .int .i64 n] w fun e w' => e = .returned (.tuple #[.string (textR L n).1, .bool (textR L n).2]) ∧ w' = w := by
  obtain ⟨so, sc, rfl⟩ := own_slice ha.row
  have c0 := cell_of_heap ha.blk 0
  simp only [List.getElem?_toArray, List.getElem?_cons_zero] at c0
  by_cases h : n < 0 ∨ (L.length : Int) ≤ n
  · have hR : textR L n = (⟨#[]⟩, false) := by unfold textR; rw [if_pos h]
    rw [hR]
    clear hR ha
    by_cases h0 : n < 0
    all_goals
      (try have h1 : (L.length : Int) ≤ n := by omega)
      clear h
      go_enter Try.func26, Try.ntmps26
      go_wp2_with fail
      go_ret2
      exact ⟨rfl, rfl⟩
  · obtain ⟨k, rfl⟩ : ∃ k : Nat, n = k := ⟨n.toNat, by omega⟩
    have hlt : k < L.length := by omega
    obtain ⟨g, cap, x0, he, hx, hc, hc'⟩ := own_cell ha.row hlt
    injection he with he1 he2 he3
    subst he1
    subst he3
    obtain ⟨x, hxs, rfl⟩ := strs_at hx
    rw [textR_at hxs]
    clear h ha hxs hx he2
    go_enter Try.func26, Try.ntmps26
    go_wp2_with fail
    go_ret2
    exact ⟨rfl, rfl⟩

set_option maxHeartbeats 1000000 in
theorem refText_any {b : Nat} {sv : Value} {L : List ByteArray} (n : Int) (w : World) (ha : RefAtomsAt w b sv L) :
    Calls Try.prog 27 #[.pointer (some ⟨b, 0, none⟩), .int .i64 n] w fun e w' => e = .returned (.tuple #[.string (textR L n).1, .bool (textR L n).2]) ∧ w' = w := by
  obtain ⟨so, sc, rfl⟩ := own_slice ha.row
  have c0 := cell_of_heap ha.blk 0
  simp only [List.getElem?_toArray, List.getElem?_cons_zero] at c0
  by_cases h : n < 0 ∨ (L.length : Int) ≤ n
  · have hR : textR L n = (⟨#[]⟩, false) := by unfold textR; rw [if_pos h]
    rw [hR]
    clear hR ha
    by_cases h0 : n < 0
    all_goals
      (try have h1 : (L.length : Int) ≤ n := by omega)
      clear h
      go_enter Try.func27, Try.ntmps27
      go_wp2_with fail
      go_ret2
      exact ⟨rfl, rfl⟩
  · obtain ⟨k, rfl⟩ : ∃ k : Nat, n = k := ⟨n.toNat, by omega⟩
    have hlt : k < L.length := by omega
    obtain ⟨g, cap, x0, he, hx, hc, hc'⟩ := own_cell ha.row hlt
    injection he with he1 he2 he3
    subst he1
    subst he3
    obtain ⟨x, hxs, rfl⟩ := strs_at hx
    rw [textR_at hxs]
    clear h ha hxs hx he2
    go_enter Try.func27, Try.ntmps27
    go_wp2_with fail
    go_ret2
    exact ⟨rfl, rfl⟩

set_option maxHeartbeats 1000000 in
theorem len_any {b m : Nat} {sv : Value} {L : List ByteArray} (w : World) (ha : AtomsAt w b m sv L) :
    Calls Try.prog 25 #[.pointer (some ⟨b, 0, none⟩)] w fun e w' => e = .returned (.int .i64 L.length) ∧ w' = w := by
  obtain ⟨so, sc, rfl⟩ := own_slice ha.row
  have c0 := cell_of_heap ha.blk 0
  simp only [List.getElem?_toArray, List.getElem?_cons_zero] at c0
  clear ha
  go_enter Try.func25, Try.ntmps25
  go_wp2_with fail
  go_ret
  exact ⟨rfl, rfl⟩

end Go.Proofs.Ytlgkofgieceooaa
