/- The law's 'all': the whole sequence, the least one, how many, how high. -/
import Derived.Test.YtpkapfhfnnfomaaTreeOver
namespace Go.Proofs.Ytpkapfhfnnfomaa
open Go.RowKit Go.Shelf
attribute [local irreducible] Ext
attribute [local go_sem] Oper.semAt_some

theorem high_pos {t : Tr Int} : decide ((0 : Int) < t.high) = decide (0 < t.list.length) := by
  cases t with
  | nil => rfl
  | node l k v r =>
    have h1 := l.high_nonneg
    have h2 := r.high_nonneg
    rw [decide_eq_true (show (0 : Int) < (Tr.node l k v r).high by simp only [Tr.high]; omega), decide_eq_true (show 0 < (Tr.node l k v r).list.length by simp [Tr.list]; omega)]

set_option maxRecDepth 100000 in
set_option maxHeartbeats 4000000 in
theorem all_any {tb b : Nat} {kv vv : Value} {L : List (Int × Int)} {t : Tr Int} (w : World) (ht : TreeAt w tb t) (hL : t.list = L) (hs : t.sorted) (hb : t.bal) (hkeys : ∀ x ∈ t.list, -9223372036854775808 ≤ x.1) (hr : RefAt w b kv vv L) (hlen : L.length ≤ 1000000) :
    Calls Try.prog 20 #[.pointer (some ⟨tb, 0, none⟩), .pointer (some ⟨b, 0, none⟩)] w fun e w' => e = .returned (.bool true) ∧ Below w.heap.size w w' := by
  have hD : overL (-9223372036854775808) t = L := by rw [overL_all hs hkeys, hL]
  have HTA := Lib.hid ht
  obtain ⟨p, htp, htt⟩ := ht
  have cp := cell_of_heap htp 0
  simp only [List.getElem?_toArray, List.getElem?_cons_zero] at cp
  have HR := Lib.hid hr
  have HT := Lib.hid htt
  have HL := Lib.hid hL
  clear hr htt htp hL hs hkeys
  obtain ⟨w3, hw3⟩ : ∃ w3, ((w.alloc (.cells #[.pointer (some ⟨b, 0, none⟩)] 36)).alloc (.cells #[.bool false] 4)).alloc (.cells #[.int .i64 0] 3) = w3 := ⟨_, rfl⟩
  have hs3 : w3.heap.size = w.heap.size + 3 := by rw [← hw3]; simp
  have hE3 : Ext w w3 := by rw [← hw3]; exact (((Ext.refl w).alloc _).alloc _).alloc _
  have hB3 := hE3.below
  have hO3 : OverI w (w.heap.size + 1 + 1) w.heap.size b 0 w3 := by
    have b0 := Boxed.new w 36 (.pointer (some ⟨b, 0, none⟩))
    have b1 := Boxed.new (w.alloc (.cells #[.pointer (some ⟨b, 0, none⟩)] 36)) 4 (.bool false)
    have b2 := Boxed.new ((w.alloc (.cells #[.pointer (some ⟨b, 0, none⟩)] 36)).alloc (.cells #[.bool false] 4)) 3 (.int .i64 0)
    simp only [World.size_alloc] at b1 b2
    rw [← hw3] at hB3 ⊢
    exact ⟨⟨b2, (b0.alloc _).alloc _, b1.alloc _⟩, hB3⟩
  have cp3 := hE3.cell cp
  have hft := allT_any w3 cp3
  refine (callsIn_wide (n := 3)).1 ?_
  refine callsIn_of_wp_marks Try.func20 rfl trivial ?_ rfl
  simp only [Try.ntmps20, List.size_toArray, List.length_cons, List.length_nil, Nat.reduceAdd, Nat.reduceSub, Array.replicate_succ, Array.replicate_zero, List.push_toArray, List.append_toArray, List.nil_append, List.cons_append]
  refine wpIn_wide.2 ?_
  have HW := Lib.hid hw3
  clear hw3 cp cp3
  go_wp2_with fail
  rw [HW.out]
  refine hft.mono ?_
  rintro e w' ⟨rfl, rfl⟩
  clear hft HW
  go_wp2_with fail
  refine (wpIn_wide (n := 3)).1 ?_
  obtain ⟨hbs, _, _, hbE⟩ := boxed_facts w3 (-9223372036854775808) p
  have hst := boxed_stops 2 (w := w3) (key := -9223372036854775808) (HT.out.ext hE3)
  rw [hD, hs3] at hst
  have hO4 : OverI w (w.heap.size + 1 + 1) w.heap.size b 0 (boxed w3 (-9223372036854775808) p) := ⟨⟨hbE.keep hO3.1.1, hbE.keep hO3.1.2.1, hbE.keep hO3.1.2.2⟩, hO3.2.trans (hbE.below.mono (by omega))⟩
  generalize boxed w3 (-9223372036854775808) p = w4 at hst hbs hbE hO4 ⊢
  clear hbE hO3 hE3 HT hB3
  refine rangeF_ex rfl (by omega) (gf := 34) (lb := #[.pointer (some ⟨w.heap.size + 3 + 1, 0, none⟩), .pointer (some ⟨w.heap.size + 3, 0, none⟩)]) rfl trivial (enters_of Try.func34 (by kernel_rfl) rfl)
    hst KeepT.trans (fun W l o o' hl hh hc _ => KeepT.putObj o' hh hc) (Below.refl _ _) (fun _ => rfl)
    (fun pre W => OverI w (w.heap.size + 1 + 1) w.heap.size b ((pre.length : Int)) W ∧ pre <+: L)
    (fun c pre W => c = .ret ∧ ¬ pre <+: L)
    (OwnFrom.and (overI_own w (w.heap.size + 1 + 1) w.heap.size b (fun pre : List (Int × Int) => (pre.length : Int)) (by omega)) (ownFrom_pure _ _))
    (fun c => ownFrom_pure _ (fun pre => c = .ret ∧ ¬ pre <+: L))
    ⟨hO4, List.nil_prefix⟩ ?ex ?done ?stop
  case ex =>
    apply Exists.intro
    apply And.intro
    · intro l x W K hK
      simp only [enc2]
      gi_wp2
      exact hK
    · rintro l pre x W ⟨hO, hpre⟩ hlt
      obtain ⟨y, hy⟩ : ∃ y, L[pre.length]? = some y := ⟨L[pre.length]'hlt, List.getElem?_eq_getElem hlt⟩
      have hps := prefix_snoc (x := x) hpre hy
      have hi := (List.getElem?_eq_some_iff.1 hy).1
      obtain ⟨gk, ck, gv, cv, r0, r1, r2, r3⟩ := (HR.out.later hO.2).reads hy
      have c0 := hO.1.1.cell
      have c1 := hO.1.2.1.cell
      have c2 := hO.1.2.2.cell
      have f0 := hO.1.1.frozen
      have f2 := hO.1.2.2.frozen
      have hiq : (pre ++ [x]).length = pre.length + 1 := by simp
      have HQ := Lib.hid hiq
      obtain ⟨i, hii⟩ : ∃ i, pre.length = i := ⟨_, rfl⟩
      rw [hii] at hi r2 r3 c0
      have t1 : decide ((L.length : Int) ≤ (i : Int)) = false := decide_eq_false (by omega)
      have t1' : decide (L.length ≤ i) = false := decide_eq_false (by omega)
      have t2 : (0 : Int) ≤ (i : Int) := by omega
      have t3 : (i : Int) < (L.length : Int) := by omega
      have e1 : IntKind.i64.wrap ((i : Int) + 1) = ((i + 1 : Nat) : Int) := by rw [IntWalk.i64_in _ (by omega)]; rfl
      have HP := Lib.hid hps
      have HO := Lib.hid hO
      have HI := Lib.hid hii
      clear hps hO hpre hy hlt hiq hii
      by_cases hk : x.1 = y.1
      · have b1 : (x.1 != y.1) = false := by simp [hk]
        by_cases hv : x.2 = y.2
        · have b2 : (x.2 != y.2) = false := by simp [hv]
          have hxy : y = x := Prod.ext hk.symm hv.symm
          have HE := Lib.hid hxy
          clear hxy hk hv
          gi_wp2
          refine wpIn_region_quiet_round rfl (by kernel_rfl) (by kernel_rfl) (by kernel_rfl) ?_
          repeat (gi_big_quiet_step (fail))
          refine wpQuietIn_nil ?_
          rintro _ ⟨nq, rfl⟩
          gi_wp2
          obtain ⟨s1, s2⟩ := (HO.out.drewN nq).step (by omega) (by omega) (by omega) (((pre ++ [x]).length : Nat) : Int)
          have hi2 : (pre ++ [x]).length = i + 1 := by rw [HQ.out, HI.out]
          refine ⟨(ko_drewN W nq).trans (KeepsOthers.setCell _ _ _), ?_, ⟨?_, HP.out.2 HE.out⟩⟩
          · rw [hi2] at s2
            exact KeepT.trans (fun _ _ _ h => h) s2
          · rw [hi2] at s1 ⊢
            exact s1
        · have b2 : (x.2 != y.2) = true := by simpa using hv
          have HE := Lib.hid hv
          clear hk hv
          gi_wp2
          refine wpIn_region_quiet_round rfl (by kernel_rfl) (by kernel_rfl) (by kernel_rfl) ?_
          repeat (gi_big_quiet_step (fail))
          refine wpQuietIn_nil ?_
          rintro _ ⟨nq, rfl⟩
          gi_wp2
          exact ⟨(ko_drewN W nq).trans (KeepsOthers.setCell _ _ _), rfl, fun hp => HE.out (by rw [HP.out.1 hp])⟩
      · have b1 : (x.1 != y.1) = true := by simpa using hk
        have HE := Lib.hid hk
        clear hk
        gi_wp2
        refine wpIn_region_quiet_round rfl (by kernel_rfl) (by kernel_rfl) (by kernel_rfl) ?_
        repeat (gi_big_quiet_step (fail))
        refine wpQuietIn_nil ?_
        rintro _ ⟨nq, rfl⟩
        gi_wp2
        exact ⟨(ko_drewN W nq).trans (KeepsOthers.setCell _ _ _), rfl, fun hp => HE.out (by rw [HP.out.1 hp])⟩
  case done =>
    rintro D L W hD' rfl ⟨hO, _⟩ hK
    have hfst := first_any W (HTA.out.keep (mod_of_below hO.2) (fun _ _ _ h => h.elim) (fun h => h))
    rw [hD] at hfst
    have hhp := high_pos (t := t)
    have hml := Tr.many_list t
    rw [HL.out] at hhp hml
    have h64 := Tr.high_most hb (by omega)
    have h0 := t.high_nonneg
    have hwm := Tr.want_many hb
    rw [hml] at hwm
    have g1 : decide (0 ≤ t.high) = true := decide_eq_true h0
    have g2 : decide (Tr.want t.high.toNat ≤ (L.length : Int)) = true := decide_eq_true hwm
    obtain ⟨n, hn⟩ : ∃ n, L.length = n := ⟨_, rfl⟩
    cases L with
    | nil =>
      have g4 : decide (0 < t.high) = false := by rw [hhp]; rfl
      simp only [firstR] at hfst
      simp only [List.length_nil, Int.cast_ofNat_Int] at g2 hml
      have HO := Lib.hid hO
      have HK := Lib.hid hK
      have HM := Lib.hid hml
      clear hO hK hst hhp hml hwm hD hn
      go_wp2_with fail
      refine hfst.mono ?_
      rintro e w5 ⟨rfl, hM5⟩
      clear hfst
      have hE5 : Ext W w5 := by unfold Ext; exact hM5
      have hO5 : OverI w (w.heap.size + 1 + 1) w.heap.size b 0 w5 := ⟨⟨hE5.keep HO.out.1.1, hE5.keep HO.out.1.2.1, hE5.keep HO.out.1.2.2⟩, HO.out.2.trans (hE5.below.mono HO.out.2.size)⟩
      have ht5 : TreeAt w5 tb t := HTA.out.keep (mod_of_below hO5.2) (fun _ _ _ h => h.elim) (fun h => h)
      have hhi := height_any w5 ht5
      have hln := len_any w5.drew (TreeAt.ext ((Ext.refl w5).drew) ht5)
      rw [HM.out] at hln
      have hle := least_of t.high w5.drew h0 h64
      have hr5 := HR.out.later hO5.2
      obtain ⟨ko, kc, rfl⟩ := own_slice hr5.keys
      have r0 := cell_of_heap hr5.blk 0
      simp only [List.getElem?_toArray, List.getElem?_cons_zero, List.length_nil] at r0
      have c0 := hO5.1.1.cell
      have c1 := hO5.1.2.1.cell
      have c2 := hO5.1.2.2.cell
      have f2 := hO5.1.2.2.frozen
      have HO5 := Lib.hid hO5
      have HK5 := Lib.hid (hE5.keep HK.out)
      clear hO5 hM5 hE5 ht5 HO HK HM hr5
      go_wp2_with (go_at_call 12; (with_reducible refine hhi.mono ?_); rintro e w' ⟨rfl, rfl⟩)
      clear hhi
      have hln' := hln.mono (R' := fun e w' => e = .returned (.int .i64 0) ∧ w' = w5.drew) (fun e w' h => ⟨h.1, h.2.symm⟩)
      have hle' := hle.mono (R' := fun e w' => e = .returned (.int .i64 (Tr.want t.high.toNat)) ∧ w' = w5.drew) (fun e w' h => ⟨h.1, h.2.symm⟩)
      clear hln hle
      go_still_tail 30, (by kernel_rfl)
      still_call hln'
      repeat still_step
      still_call hle'
      repeat still_step
      refine wpStill_nil ?_
      change wpList _ _ _ _ _ w5.drew
      go_wp2
      exact ret_at (W := w5.drew) (rb := w.heap.size + 1) HO5.out.1.2.2 rfl HO5.out.2.drew (by omega) HK5.out (by omega)
    | cons y L' =>
      have hy0 : (y :: L')[0]? = some y := rfl
      have g3 : decide ((0 : Int) < (n : Int)) = true := decide_eq_true (by simp at hn; omega)
      have g3' : decide (0 < n) = true := decide_eq_true (by simp at hn; omega)
      have g3'' : (0 : Int) < (n : Int) := by simp at hn; omega
      have g4 : decide (0 < t.high) = true := by rw [hhp]; rfl
      simp only [firstR] at hfst
      have HO := Lib.hid hO
      have HK := Lib.hid hK
      have HN := Lib.hid hn
      have HM := Lib.hid hml
      clear hO hK hst hhp hml hwm hD
      go_wp2_with fail
      refine hfst.mono ?_
      rintro e w5 ⟨rfl, hM5⟩
      clear hfst
      have hE5 : Ext W w5 := by unfold Ext; exact hM5
      have hO5 : OverI w (w.heap.size + 1 + 1) w.heap.size b (((y :: L').length : Int)) w5 := ⟨⟨hE5.keep HO.out.1.1, hE5.keep HO.out.1.2.1, hE5.keep HO.out.1.2.2⟩, HO.out.2.trans (hE5.below.mono HO.out.2.size)⟩
      have ht5 : TreeAt w5 tb t := HTA.out.keep (mod_of_below hO5.2) (fun _ _ _ h => h.elim) (fun h => h)
      have hhi := height_any w5 ht5
      have hln := len_any w5.drew (TreeAt.ext ((Ext.refl w5).drew) ht5)
      rw [HM.out] at hln
      have hle := least_of t.high w5.drew h0 h64
      obtain ⟨gk, ck, gv, cv, r0, r1, r2, r3⟩ := (HR.out.later hO5.2).reads hy0
      rw [HN.out] at hln r0 r1 hO5 g2
      have c0 := hO5.1.1.cell
      have c1 := hO5.1.2.1.cell
      have c2 := hO5.1.2.2.cell
      have f2 := hO5.1.2.2.frozen
      have HO5 := Lib.hid hO5
      have HK5 := Lib.hid (hE5.keep HK.out)
      clear hO5 hM5 hE5 ht5 HO HK HN HM hy0
      go_wp2_with (go_at_call 12; (with_reducible refine hhi.mono ?_); rintro e w' ⟨rfl, rfl⟩)
      clear hhi
      have hln' := hln.mono (R' := fun e w' => e = .returned (.int .i64 (n : Int)) ∧ w' = w5.drew) (fun e w' h => ⟨h.1, h.2.symm⟩)
      have hle' := hle.mono (R' := fun e w' => e = .returned (.int .i64 (Tr.want t.high.toNat)) ∧ w' = w5.drew) (fun e w' h => ⟨h.1, h.2.symm⟩)
      clear hln hle
      go_still_tail 30, (by kernel_rfl)
      still_call hln'
      repeat still_step
      still_call hle'
      repeat still_step
      refine wpStill_nil ?_
      change wpList _ _ _ _ _ w5.drew
      go_wp2
      exact ret_at (W := w5.drew) (rb := w.heap.size + 1) HO5.out.1.2.2 rfl HO5.out.2.drew (by omega) HK5.out (by omega)
  case stop =>
    rintro D c pre W hD hpre ⟨_, h⟩ _
    exact absurd hpre h

end Go.Proofs.Ytpkapfhfnnfomaa
