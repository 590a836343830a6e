/- The law's 'done', walked. -/
import Derived.Test.YtpkapfhfnnfomaaTreeDone
namespace Go.Proofs.Ytpkapfhfnnfomaa
open Go.RowKit Go.Shelf
attribute [local irreducible] Ext

set_option maxRecDepth 100000 in
set_option maxHeartbeats 4000000 in
theorem done_any {F : Nat → Prop} {w0 w : World} {tb rb : Nat} {t : Tr Int} (a0 : Option Addr) (cap : Nat) (l : List (Int × Int × Int)) (hI : DInv F w0 w tb rb t t.list) {B : Nat} (hFB : ∀ k, F k → B ≤ k) (ha : ArgActs B w0 (.slice a0 l.length cap) l)
    (hl : ∀ x ∈ l, -9223372036854775808 ≤ x.2.1 ∧ x.2.1 ≤ 9223372036854775807) (hlen : l.length ≤ 1000) (hmt : t.many ≤ 100000) :
    Calls Try.prog 21 #[.pointer (some ⟨tb, 0, none⟩), .pointer (some ⟨rb, 0, none⟩), .slice a0 l.length cap] w fun e w' => (∃ v, e = .returned v) ∧ ∃ t', DInv F w0 w' tb rb t' t'.list ∧ t'.many ≤ t.many + l.length := by
  have HL := Lib.hid hl
  have HA := Lib.hid ha
  have HI := Lib.hid hI
  have HF := Lib.hid hFB
  obtain ⟨M, hM⟩ : ∃ M, t.many = M := ⟨_, rfl⟩
  rw [hM] at hmt ⊢
  have hM' : t.many ≤ M + ((0 : Nat) : Int) := by omega
  clear hl ha hI hFB hM
  go_enter Try.func21, Try.ntmps21
  go_wp2_with fail
  go_loopg [6] l.length (fun g i wr => ∃ (j : Nat) (t : Tr Int), j + g = l.length ∧ i = .int .i64 j ∧ Hid (DInv F w0 wr tb rb t t.list) ∧ t.many ≤ M + (j : Int))
  case atStart => exact ⟨0, t, by omega, rfl, HI, hM'⟩
  case round =>
    clear HI hM'
    obtain ⟨j, t, hj, rfl, HI, hm⟩ := hrel
    by_cases hlt : (j : Int) < (l.length : Int)
    · obtain ⟨⟨op, key, val⟩, hx⟩ : ∃ x, l[j]? = some x := ⟨l[j]'(by omega), List.getElem?_eq_getElem (by omega)⟩
      have hcs := HA.out.keep HI.out.mod HF.out
      obtain ⟨so, cap', he, hcells⟩ := hcs
      obtain ⟨b, o, rfl, hb, d0, d1, d2⟩ := hcells j _ hx
      injection he with he1 he2 he3
      subst he1
      simp only [] at d0 d1 d2
      have hkr := HL.out _ (List.mem_of_getElem? hx)
      simp only [] at hkr
      have hk0 := hkr.1
      have hm9 : t.many < 1000000000 := by omega
      have hl9 : t.list.length ≤ 1000000 := by have := Tr.many_list t; omega
      have hrs := Tr.sorted_rising HI.out.sorted
      have e2 : IntKind.i64.wrap ((j : Int) + 1) = ((j + 1 : Nat) : Int) := by rw [IntWalk.i64_in _ (by omega)]; rfl
      clear he2 he3 hcells hkr
      by_cases h1 : op = 1
      · subst h1
        have hA1 := put_dt HI.out.drew key val hm9 hk0
        have hmp := Tr.many_put key val t
        go_wp2_with fail
        go_still_tail 11, (by kernel_rfl)
        change wpList _ _ _ _ _ wr.drew
        go_wp2_with fail
        refine hA1.mono ?_
        rintro e w1 ⟨rfl, hP1⟩
        have hins : ins key val t.list = (Tr.put key val t).list := (Tr.list_put HI.out.sorted).symm
        have hB1 := put_dd hP1.drew key val hl9 hrs
        rw [hins] at hB1
        obtain ⟨so', cap'', he', hcells'⟩ := HA.out.keep hP1.mod HF.out
        obtain ⟨b', o', hbo, _, _, d3, d4⟩ := hcells' j _ hx
        injection he' with he1 he2 he3
        rw [← he1] at hbo
        injection hbo with hbo
        injection hbo with hbo1 hbo2
        subst hbo1 hbo2
        simp only [] at d3 d4
        clear hA1 hP1 hins d0 d1 d2 he1 he2 he3 hcells' hrs hx
        go_wp2_with fail
        go_still_tail 11, (by kernel_rfl)
        change wpList _ _ _ _ _ w1.drew
        go_wp2_with fail
        refine hB1.mono ?_
        rintro e w2 ⟨rfl, hP2⟩
        have HP2 := Lib.hid hP2
        clear hB1 hP2 d3 d4
        go_wp2_with fail
        go_roundg (l.length - j - 1)
        case measure => omega
        case rel => exact ⟨j + 1, _, by omega, rfl, HP2, by omega⟩
      · have b1 : (op == 1) = false := by simpa using h1
        have hA1 := drop_dt HI.out key hm9
        have hmp := many_dropped t key
        go_wp2_with fail
        refine hA1.mono ?_
        rintro e w1 ⟨rfl, hP1⟩
        have hins : del key t.list = (dropped t key).list := (dropped_list HI.out.sorted key).symm
        have hB1 := drop_dd hP1 key hl9 hrs
        rw [hins] at hB1
        obtain ⟨so', cap'', he', hcells'⟩ := HA.out.keep hP1.mod HF.out
        obtain ⟨b', o', hbo, _, _, d3, d4⟩ := hcells' j _ hx
        injection he' with he1 he2 he3
        rw [← he1] at hbo
        injection hbo with hbo
        injection hbo with hbo1 hbo2
        subst hbo1 hbo2
        simp only [] at d3 d4
        clear hA1 hP1 hins d0 d1 d2 he1 he2 he3 hcells' hrs hx
        go_wp2_with fail
        refine hB1.mono ?_
        rintro e w2 ⟨rfl, hP2⟩
        have HP2 := Lib.hid hP2
        clear hB1 hP2 d3 d4
        go_wp2_with fail
        go_roundg (l.length - j - 1)
        case measure => omega
        case rel => exact ⟨j + 1, _, by omega, rfl, HP2, by omega⟩
    · obtain rfl : j = l.length := by omega
      clear hlt
      go_wp2_with fail
      go_end0
      exact ⟨⟨_, rfl⟩, t, HI.out, by omega⟩

end Go.Proofs.Ytpkapfhfnnfomaa
