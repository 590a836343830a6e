/- TreePlays' walk. -/
import Derived.Test.YtpkapfhfnnfomaaTreePlaysInv
import Derived.Deep.DeepCutAuto
import Derived.Deep.CutRange
import Derived.Deep.CutBlock
namespace Go.Proofs.Ytpkapfhfnnfomaa
open Go.RowKit Go.Shelf
attribute [local irreducible] Ext

set_option maxRecDepth 100000 in
set_option maxHeartbeats 8000000 in
theorem treePlays_any (a0 : Option Addr) (cap : Nat) (l : List (Int × Int × Int)) (w : World) (ha : ArgActs w.heap.size w (.slice a0 l.length cap) l) (hl : ∀ x ∈ l, -9223372036854775808 ≤ x.2.1 ∧ x.2.1 ≤ 9223372036854775807) :
    Calls Try.prog 5 #[.slice a0 l.length cap] w fun e w' => e = .returned (.bool true) ∧ Below w.heap.size w w' := by
  have HL := Lib.hid hl
  have HA := Lib.hid ha
  have hkn := known_any w
  clear hl ha
  go_enter Try.func5, Try.ntmps5
  go_wp2_with fail
  refine hkn.mono ?_
  rintro e w1 ⟨rfl, hM1⟩
  clear hkn
  have hB1 : Below w.heap.size w w1 := hM1.below (Nat.le_refl _) (fun _ h => h.elim)
  by_cases hbig : 3000 < l.length
  · have hb1 : decide ((3000 : Int) < (l.length : Int)) = true := decide_eq_true (by omega)
    go_wp2_with fail
    go_ret
    exact ⟨rfl, hB1⟩
  · have hb1 : decide ((3000 : Int) < (l.length : Int)) = false := decide_eq_false (by omega)
    have hle : l.length ≤ 3000 := by omega
    clear hbig
    go_wp2_with fail
    refine (new_any _).mono ?_
    rintro e w2 ⟨rfl, ht2, hE2⟩
    obtain ⟨tb, htb⟩ : ∃ tb, w1.heap.size = tb := ⟨_, rfl⟩
    rw [htb] at ht2 ⊢
    have hs2 := hB1.size
    have hI : PInv w (w2.alloc (.cells #[.slice none 0 0, .slice none 0 0] 38)) tb w2.heap.size .nil [] := by
      have hEa : Ext w2 (w2.alloc (.cells #[.slice none 0 0, .slice none 0 0] 38)) := (Ext.refl w2).alloc _
      have hBa := (hB1.trans (hE2.below.mono hs2)).trans (hEa.below.mono (by have := hE2.below.size; omega))
      refine ⟨TreeAt.ext hEa ht2, ⟨.slice none 0 0, .slice none 0 0, ⟨heap_alloc_new w2 _, World.ownsRow_nil _ _ _ _, World.ownsRow_nil _ _ _ _, (fun k h => by cases h)⟩, (fun k h => by rcases h with h | h <;> cases h)⟩, hBa, by omega, by have := hE2.below.size; omega, trivial, trivial, (fun _ h => by cases h)⟩
    have HI := Lib.hid hI
    clear ht2 hE2 hs2 htb hB1 hM1 hI
    go_wp2_with fail
    generalize w2.alloc (.cells #[.slice none 0 0, .slice none 0 0] 38) = w3 at HI ⊢
    obtain ⟨rb, hrb⟩ : ∃ rb, w2.heap.size = rb := ⟨_, rfl⟩
    rw [hrb] at HI ⊢
    clear hrb
    go_loopg [5, 6, 7, 8, 9, 10, 11] l.length (fun g i x v s vv ss h wr => ∃ (j : Nat) (t : Tr Int), j + g = l.length ∧ i = .int .i64 j ∧ Hid (PInv w wr tb rb t t.list) ∧ t.many ≤ j)
    case atStart => exact ⟨0, .nil, by omega, rfl, HI, Int.le_refl _⟩
    case round =>
      clear HI w3
      obtain ⟨j, t, hj, rfl, HI, hm⟩ := hrel
      by_cases hlt : (j : Int) < (l.length : Int)
      · obtain ⟨⟨op, key, val⟩, hx⟩ : ∃ x, l[j]? = some x := ⟨l[j]'(by omega), List.getElem?_eq_getElem (by omega)⟩
        obtain ⟨so, cap', he, hcells⟩ := HA.out
        obtain ⟨b, o, rfl, hb, x0, x1, x2⟩ := hcells j _ hx
        injection he with he1 he2 he3
        subst he1
        have d0 := (HI.out.below.cell (p := ⟨b, o + j * 3, none⟩) hb).trans x0
        have d1 := (HI.out.below.cell (p := ⟨b, o + j * 3 + 1, none⟩) hb).trans x1
        have d2 := (HI.out.below.cell (p := ⟨b, o + j * 3 + 2, none⟩) hb).trans x2
        have hkr := HL.out _ (List.mem_of_getElem? hx)
        have HKR := Lib.hid hkr
        clear he2 he3 hcells x0 x1 x2 hx hkr
        go_upto_block 2 with (fail)
        have hxb : wr.heap.size = wr.heap.size := rfl
        have hP : PAct w (wr.alloc (.cells #[.int .i64 op, .int .i64 key, .int .i64 val] 40)) tb rb wr.heap.size t t.list op key val := ⟨HI.out.ext ((Ext.refl wr).alloc _), heap_alloc_new wr _⟩
        generalize wr.alloc (.cells #[.int .i64 op, .int .i64 key, .int .i64 val] 40) = wb at hP ⊢
        obtain ⟨xb, hx⟩ : ∃ xb, wr.heap.size = xb := ⟨_, rfl⟩
        rw [hx] at hP ⊢
        have HP := Lib.hid hP
        have hk0 := HKR.out.1
        simp only [] at hk0
        clear hP hx hxb d0 d1 d2 HI HKR
        go_cut [2] from 22 to 119 (fun r wx => ∃ t' : Tr Int, Hid (PAct w wx tb rb xb t' t'.list op key val) ∧ t'.many ≤ (j : Int) + 1)
        case first =>
          have hm9 : t.many < 1000000000 := by omega
          have hl9 : t.list.length ≤ 1000000 := by have := Tr.many_list t; omega
          have hrs := Tr.sorted_rising HP.out.inv.sorted
          by_cases h1 : op = 1
          · subst h1
            have s1 := cell_of_heap HP.out.act 1
            have s2 := cell_of_heap HP.out.act 2
            simp only [List.getElem?_toArray, List.getElem?_cons_succ, List.getElem?_cons_zero] at s1 s2
            have hPd : PAct w wb.drew tb rb xb t t.list 1 key val := ⟨HP.out.inv.drew, HP.out.act⟩
            obtain ⟨q, hq⟩ : ∃ q, (!(getR t key).2) = q := ⟨_, rfl⟩
            have hq2 : (!(lookR t.list key).2) = q := by rw [← get_same HP.out.inv.sorted rfl key]; exact hq
            have hins : ins key val t.list = (Tr.put key val t).list := (Tr.list_put HP.out.inv.sorted).symm
            have hA1 := put_pt hPd key val hm9 hk0
            have hB1 := put_pd hPd key val hl9 hrs
            rw [hq] at hA1
            rw [hq2, hins] at hB1
            have hA2 : ∀ w', PAct w w' tb rb xb (.put key val t) t.list 1 key val → Calls Try.prog 15 #[.pointer (some ⟨rb, 0, none⟩), .int .i64 key, .int .i64 val] w' fun e w'' => e = .returned (.bool q) ∧ PAct w w'' tb rb xb (.put key val t) (Tr.put key val t).list 1 key val := by
              intro w' h
              have := put_pd h key val hl9 hrs
              rw [hq2, hins] at this
              exact this
            have hB2 : ∀ w', PAct w w' tb rb xb t (Tr.put key val t).list 1 key val → Calls Try.prog 9 #[.pointer (some ⟨tb, 0, none⟩), .int .i64 key, .int .i64 val] w' fun e w'' => e = .returned (.bool q) ∧ PAct w w'' tb rb xb (.put key val t) (Tr.put key val t).list 1 key val := by
              intro w' h
              have := put_pt h key val hm9 hk0
              rw [hq] at this
              exact this
            have hS : ∀ (w' : World) (t' : Tr Int) (L' : List (Int × Int)), PAct w w' tb rb xb t' L' 1 key val → w'.cell? ⟨xb, 1, none⟩ = some (.int .i64 key) ∧ w'.cell? ⟨xb, 2, none⟩ = some (.int .i64 val) := by
              intro w' t' L' h
              have a1 := cell_of_heap h.act 1
              have a2 := cell_of_heap h.act 2
              exact ⟨by simpa using a1, by simpa using a2⟩
            have hmp := Tr.many_put key val t
            have HS := Lib.hid hS
            have HA2 := Lib.hid hA2
            have HB2 := Lib.hid hB2
            clear hq hq2 hins hPd hS hA2 hB2 hrs
            go_wp2_with fail
            go_region_held3 (fun w' => w'.cell? ⟨xb, 1, none⟩ = some (.int .i64 key) ∧ w'.cell? ⟨xb, 2, none⟩ = some (.int .i64 val)) (first | assumption | go_keep)
              (first
                | (go_at_call 9; (with_reducible refine hA1.mono ?_); rintro e w1 ⟨rfl, hP1⟩; have hC2 := HA2.out w1 hP1; have hS1 := HS.out _ _ _ hP1)
                | (go_at_call 15; (with_reducible refine hB1.mono ?_); rintro e w1 ⟨rfl, hP1⟩; have hD2 := HB2.out w1 hP1; have hS1 := HS.out _ _ _ hP1)
                | (go_at_call 15; (with_reducible refine hC2.mono ?_); rintro e w2 ⟨rfl, hP2⟩; have hS2 := HS.out _ _ _ hP2)
                | (go_at_call 9; (with_reducible refine hD2.mono ?_); rintro e w2 ⟨rfl, hP2⟩; have hS2 := HS.out _ _ _ hP2))
            all_goals go_wp2
            all_goals go_meet
            all_goals exact ⟨_, Lib.hid hP2, by omega⟩
          · by_cases h2 : op = 2
            · subst h2
              clear h1
              have s1 := cell_of_heap HP.out.act 1
              simp only [List.getElem?_toArray, List.getElem?_cons_succ, List.getElem?_cons_zero] at s1
              have hPd : PAct w wb.drew tb rb xb t t.list 2 key val := ⟨HP.out.inv.drew, HP.out.act⟩
              obtain ⟨q, hq⟩ : ∃ q, (getR t key).2 = q := ⟨_, rfl⟩
              have hq2 : (lookR t.list key).2 = q := by rw [← get_same HP.out.inv.sorted rfl key]; exact hq
              have hins : del key t.list = (dropped t key).list := (dropped_list HP.out.inv.sorted key).symm
              have hA1 := drop_pt hPd key hm9
              have hB1 := drop_pd hPd key hl9 hrs
              rw [hq] at hA1
              rw [hq2, hins] at hB1
              have hA2 : ∀ w', PAct w w' tb rb xb (dropped t key) t.list 2 key val → Calls Try.prog 16 #[.pointer (some ⟨rb, 0, none⟩), .int .i64 key] w' fun e w'' => e = .returned (.bool q) ∧ PAct w w'' tb rb xb (dropped t key) (dropped t key).list 2 key val := by
                intro w' h
                have := drop_pd h key hl9 hrs
                rw [hq2, hins] at this
                exact this
              have hB2 : ∀ w', PAct w w' tb rb xb t (dropped t key).list 2 key val → Calls Try.prog 13 #[.pointer (some ⟨tb, 0, none⟩), .int .i64 key] w' fun e w'' => e = .returned (.bool q) ∧ PAct w w'' tb rb xb (dropped t key) (dropped t key).list 2 key val := by
                intro w' h
                have := drop_pt h key hm9
                rw [hq] at this
                exact this
              have hS : ∀ (w' : World) (t' : Tr Int) (L' : List (Int × Int)), PAct w w' tb rb xb t' L' 2 key val → w'.cell? ⟨xb, 1, none⟩ = some (.int .i64 key) := by
                intro w' t' L' h
                have a1 := cell_of_heap h.act 1
                simpa using a1
              have hmp := many_dropped t key
              have HS := Lib.hid hS
              have HA2 := Lib.hid hA2
              have HB2 := Lib.hid hB2
              clear hq hq2 hins hPd hS hA2 hB2 hrs
              go_wp2_with fail
              go_region_held3 (fun w' => w'.cell? ⟨xb, 1, none⟩ = some (.int .i64 key)) (first | assumption | go_keep)
                (first
                  | (go_at_call 13; (with_reducible refine hA1.mono ?_); rintro e w1 ⟨rfl, hP1⟩; have hC2 := HA2.out w1 hP1; have hS1 := HS.out _ _ _ hP1)
                  | (go_at_call 16; (with_reducible refine hB1.mono ?_); rintro e w1 ⟨rfl, hP1⟩; have hD2 := HB2.out w1 hP1; have hS1 := HS.out _ _ _ hP1)
                  | (go_at_call 16; (with_reducible refine hC2.mono ?_); rintro e w2 ⟨rfl, hP2⟩; have hS2 := HS.out _ _ _ hP2)
                  | (go_at_call 13; (with_reducible refine hD2.mono ?_); rintro e w2 ⟨rfl, hP2⟩; have hS2 := HS.out _ _ _ hP2))
              all_goals go_wp2
              all_goals go_meet
              all_goals exact ⟨_, Lib.hid hP2, by omega⟩
            · by_cases h4 : op = 4
              · subst h4
                clear h1 h2
                have s1 := cell_of_heap HP.out.act 1
                simp only [List.getElem?_toArray, List.getElem?_cons_succ, List.getElem?_cons_zero] at s1
                obtain ⟨kv, vv, hd, _⟩ := HP.out.inv.doc
                have hov := over_any key wb HP.out.inv.tree rfl HP.out.inv.sorted hd hl9
                clear hd hrs
                go_wp2_with fail
                refine hov.mono ?_
                rintro e w2 ⟨rfl, hB2⟩
                have hE2 := ext_of_below hB2
                have hP2 : PAct w w2 tb rb xb t t.list 4 key val := ⟨HP.out.inv.ext hE2, HP.out.act.ext hE2⟩
                clear hov
                go_wp2_with fail
                go_meet
                exact ⟨t, Lib.hid hP2, by omega⟩
              · have b1 : (op == 1) = false := by simpa using h1
                have b2 : (op == 2) = false := by simpa using h2
                have b4 : (op == 4) = false := by simpa using h4
                clear hrs
                go_wp2_with fail
                go_meet
                exact ⟨t, HP, by omega⟩
        case rest =>
          obtain ⟨t', HP, hm'⟩ := hcut
          have hs' := HP.out.inv.sorted
          have hb' := HP.out.inv.bal
          have hg := get_any key wc HP.out.inv.tree
          obtain ⟨kv, vv, hd, _⟩ := HP.out.inv.doc
          have hll := Tr.many_list t'
          have hgl := getL_any key wc hd (by omega) (Tr.sorted_rising hs')
          rw [← get_same hs' rfl key] at hgl
          generalize (getR t' key).1 = r1 at hg hgl
          generalize (getR t' key).2 = r2 at hg hgl
          have hhi : ∀ k, Calls Try.prog 12 #[.pointer (some ⟨tb, 0, none⟩)] (wc.drewN k) fun e w' => e = .returned (.int .i64 t'.high) ∧ wc.drewN k = w' := fun k => height_any _ (HP.out.inv.drewN k).tree
          have s1 := cell_of_heap HP.out.act 1
          simp only [List.getElem?_toArray, List.getElem?_cons_succ, List.getElem?_cons_zero] at s1
          have HD := Lib.hid hd
          clear hd
          go_wp2_with (first
            | (go_at_call 18; (with_reducible refine hg.mono ?_); rintro e w' ⟨rfl, rfl⟩)
            | (go_at_call 19; (with_reducible refine hgl.mono ?_); rintro e w' ⟨rfl, nd, rfl⟩)
            | (go_at_call 12; (with_reducible refine (hhi _).mono ?_); rintro e w' ⟨rfl, rfl⟩))
          clear hg hgl hhi s1
          have hPd : PAct w (wc.drewN nd) tb rb xb t' t'.list op key val := ⟨HP.out.inv.drewN nd, HP.out.act⟩
          have hDd := HD.out.drewN nd
          clear HP HD
          generalize wc.drewN nd = wd at hPd hDd ⊢
          have HP := Lib.hid hPd
          have HD := Lib.hid hDd
          clear hPd hDd
          obtain ⟨ko, kc, rfl⟩ := own_slice HD.out.keys
          have r0 := cell_of_heap HD.out.blk 0
          simp only [List.getElem?_toArray, List.getElem?_cons_zero] at r0
          have h64 := Tr.high_most hb' (by omega)
          have h0 := t'.high_nonneg
          have hwm := Tr.want_many hb'
          have c2 : decide (t'.high < 0) = false := decide_eq_false (by omega)
          have c3 : decide (64 < t'.high) = false := decide_eq_false (by omega)
          have c4 : decide ((t'.list.length : Int) < Tr.want t'.high.toNat) = false := decide_eq_false (by omega)
          have hln : ∀ k, Calls Try.prog 10 #[.pointer (some ⟨tb, 0, none⟩)] (wd.drewN k) fun e w' => e = .returned (.int .i64 (t'.list.length : Int)) ∧ wd.drewN k = w' := fun k => by
            have := len_any _ (HP.out.inv.drewN k).tree
            rw [hll] at this
            exact this
          have hle : ∀ k, Calls Try.prog 11 #[.int .i64 t'.high] (wd.drewN k) fun e w' => e = .returned (.int .i64 (Tr.want t'.high.toNat)) ∧ wd.drewN k = w' := fun k => least_of t'.high _ h0 h64
          clear hll hwm h0 h64 hs' hb'
          go_quiet ((first
            | (go_at_call 10; (with_reducible refine quiet_of_eq (hln _)))
            | (go_at_call 11; (with_reducible refine quiet_of_eq (hle _)))))
          have e2 : IntKind.i64.wrap ((j : Int) + 1) = ((j + 1 : Nat) : Int) := by rw [IntWalk.i64_in _ (by omega)]; rfl
          clear hln hle
          go_wp2_with fail
          go_roundg (l.length - j - 1)
          case measure => omega
          case rel => exact ⟨j + 1, t', by omega, rfl, Lib.hid (HP.out.inv.drewN _), by omega⟩
      · obtain rfl : j = l.length := by omega
        clear hlt
        obtain ⟨kv, vv, hd, _⟩ := HI.out.doc
        have hll := Tr.many_list t
        have hal := all_any wr HI.out.tree rfl HI.out.sorted HI.out.bal HI.out.keys hd (by omega)
        clear hd
        go_wp2_with fail
        refine hal.mono ?_
        rintro e w5 ⟨rfl, hB5⟩
        clear hal
        go_wp2_with fail
        go_ret
        exact ⟨rfl, HI.out.below.trans (hB5.mono HI.out.below.size)⟩

end Go.Proofs.Ytpkapfhfnnfomaa
