/- LinksDeaf's walk. -/
import Derived.Test.YtoofhccjjhhipaaVStep
import Derived.Test.YtoofhccjjhhipaaVKnown14
import Derived.Test.YtoofhccjjhhipaaArgAct14
import Derived.Deep.LoopGhost
namespace Go.Proofs.Ytoofhccjjhhipaa
open Go.RowKit
attribute [local irreducible] Ext

theorem exit_deaf {W w : World} {lb tb rb : Nat} {K : List (Int × (Int × Int × Int))} {ids p : Int} (h : Two W w lb tb rb K ids K ids) (hd : Deaf K p) (hm : K.length ≤ 1000000) {B : Nat} {y : (Int × Int × Int)} (hz : Box3 w B y) :
    Calls Try.prog 13 #[.pointer (some ⟨lb, 0, none⟩), .int .i64 p] w fun e w' => e = .returned (.bool false) ∧ Two W w' lb tb rb K ids K ids ∧ Box3 w' B y := by
  refine (onExit_any p w h.lt hm).mono fun _ _ hp => ?_
  rw [if_neg (deaf_state hd), decide_eq_false (deaf_state hd)] at hp
  refine ⟨hp.1, (h.l hp.2).1, hp.2.2.keep hz ?_⟩
  obtain ⟨cs, fr, hb⟩ := h.lt.tree.blk
  rintro (e | e)
  · exact blk_ne (show w.heap[B]? = _ from hz) h.lt.blk (by decide) e
  · exact blk_ne (show w.heap[B]? = _ from hz) hb (by decide) e

/-- What a round of the first loop knows, and of the second one. -/
structure DI (W w : World) (lb tb rb : Nat) (K : List (Int × (Int × Int × Int))) (ids : Int) : Prop where
  two : Two W w lb tb rb K ids K ids
  ok : KOk K

theorem DI.ext {W w w' : World} {lb tb rb : Nat} {K : List (Int × (Int × Int × Int))} {ids : Int} (h : DI W w lb tb rb K ids) (hE : Ext w w') : DI W w' lb tb rb K ids := ⟨h.two.ext hE, h.ok⟩

theorem di_step {W w : World} {lb tb rb : Nat} {K : List (Int × (Int × Int × Int))} {ids : Int} (h : DI W w lb tb rb K ids) (op pid id : Int) (hm : K.length ≤ 100000) (hp : 1 ≤ pid) :
    Calls Try.prog 9 #[.pointer (some ⟨lb, 0, none⟩), .pointer (some ⟨rb, 0, none⟩), .agg #[.int .i64 op, .int .i64 pid, .int .i64 id]] w fun e w' =>
      e = .returned (.bool true) ∧ ∃ K' ids', DI W w' lb tb rb K' ids' ∧ K'.length ≤ K.length + 1 ∧ ∀ p, Deaf K p → ¬ (pid = p ∧ (op = 1 ∨ op = 3 ∨ op = 7)) → Deaf K' p := by
  refine (step_any op pid id h.two h.ok hm).mono fun _ _ hq => ?_
  have hs := stepK_ok h.ok ids op hp id
  exact ⟨hq.1, _, _, ⟨hq.2, hs.1⟩, hs.2, fun p hd hn => stepK_deaf hd h.ok.rising ids op pid id hn⟩

theorem new_two {W w w2 : World} {lb tb : Nat} (hB : Below W.heap.size W w) (h : LT w2 lb tb [] 0) (hE : Ext w w2) (h1 : w.heap.size ≤ lb) (h2 : w.heap.size ≤ tb) :
    DI W (w2.alloc (.cells #[.slice none 0 0, .int .i64 0] 29)) lb tb w2.heap.size [] 0 := by
  have hs := hB.size
  have hE3 : Ext w2 (w2.alloc (.cells #[.slice none 0 0, .int .i64 0] 29)) := (Ext.refl w2).alloc _
  have hs2 := Ext.size hE
  refine ⟨⟨h.ext hE3, ⟨.slice none 0 0, [], ⟨heap_alloc_new w2 _, World.ownsRow_nil _ _ _ _⟩, rfl, fun k hk => by cases hk⟩, hB.trans ((hE.trans hE3).below.mono hs), by omega, by omega, by omega⟩, ⟨List.Pairwise.nil, (fun _ h => by cases h), (fun _ h => by cases h)⟩⟩

set_option maxRecDepth 100000 in
set_option maxHeartbeats 8000000 in
theorem linksDeaf_any (a0 a1 : Option Addr) (cap cap1 : Nat) (l rest : List (Int × Int × Int)) (pid : Int) (w : World) (ha : ArgActs w.heap.size w (.slice a0 l.length cap) l) (ha1 : ArgActs w.heap.size w (.slice a1 rest.length cap1) rest) :
    Calls Try.prog 3 #[.slice a0 l.length cap, .int .i64 pid, .slice a1 rest.length cap1] w fun e w' => e = .returned (.bool true) ∧ Below w.heap.size w w' := by
  have HA := Lib.hid ha
  have HA1 := Lib.hid ha1
  clear ha ha1
  go_enter Try.func3, Try.ntmps3
  go_wp2_with fail
  refine (lknown_any w).mono ?_
  rintro e w1 ⟨rfl, hM1⟩
  have hB1 : Below w.heap.size w w1 := hM1.below (Nat.le_refl _) (fun _ h => h.elim)
  clear hM1
  by_cases hbig : 2000 < l.length
  · have hb1 : decide ((2000 : Int) < (l.length : Int)) = true := decide_eq_true (by omega)
    clear hbig
    go_wp2_with fail
    go_ret
    exact ⟨rfl, hB1⟩
  have hb1 : decide ((2000 : Int) < (l.length : Int)) = false := decide_eq_false (by omega)
  have hlen : l.length ≤ 2000 := by omega
  clear hbig
  by_cases hbig : 2000 < rest.length
  · have hb2 : decide ((2000 : Int) < (rest.length : Int)) = true := decide_eq_true (by omega)
    clear hbig
    go_wp2_with fail
    go_ret
    exact ⟨rfl, hB1⟩
  have hb2 : decide ((2000 : Int) < (rest.length : Int)) = false := decide_eq_false (by omega)
  have hlen2 : rest.length ≤ 2000 := by omega
  clear hbig
  by_cases hp : pid < 1
  · have hb3 : decide (pid < 1) = true := decide_eq_true hp
    clear hp
    go_wp2_with fail
    go_ret
    exact ⟨rfl, hB1⟩
  have hb3 : decide (pid < 1) = false := decide_eq_false hp
  have hp1 : 1 ≤ pid := by omega
  clear hp
  go_wp2_with fail
  refine (lnew_any _).mono ?_
  rintro e w2 ⟨lb, tb, rfl, h2, hE2, hlb, htb⟩
  have hI := new_two hB1 h2 hE2 hlb htb
  obtain ⟨rb, hrb⟩ : ∃ rb, w2.heap.size = rb := ⟨_, rfl⟩
  rw [hrb] at hI
  have HI := Lib.hid hI
  clear h2 hE2 hlb htb hI hB1 hb1 hb2 hb3
  go_wp2_with fail
  generalize w2.alloc (.cells #[.slice none 0 0, .int .i64 0] 29) = w3 at HI ⊢
  clear hrb w2 w1
  go_loopg [9] l.length (fun g i wr => ∃ (j : Nat) (K : List (Int × (Int × Int × Int))) (ids : Int), j + g = l.length ∧ i = .int .i64 j ∧ Hid (DI w wr lb tb rb K ids) ∧ K.length ≤ j)
  case atStart => exact ⟨0, [], 0, by omega, rfl, HI, Nat.le_refl _⟩
  case round =>
    clear HI w3
    obtain ⟨j, K, ids, hj, rfl, HI, hmk⟩ := hrel
    by_cases hlt : (j : Int) < (l.length : Int)
    · obtain ⟨⟨op, key, val⟩, hx⟩ : ∃ x, l[j]? = some x := ⟨l[j]'(by omega), List.getElem?_eq_getElem (by omega)⟩
      obtain ⟨so, cap', he, hcells⟩ := HA.out
      obtain ⟨b, o, rfl, hb, x0, x1, x2⟩ := hcells j _ hx
      injection he with he1 he2 he3
      subst he1
      have d0 := (HI.out.two.below.cell (p := ⟨b, o + j * 3, none⟩) hb).trans x0
      have d1 := (HI.out.two.below.cell (p := ⟨b, o + j * 3 + 1, none⟩) hb).trans x1
      have d2 := (HI.out.two.below.cell (p := ⟨b, o + j * 3 + 2, none⟩) hb).trans x2
      simp only [] at d0 d1 d2
      have e2 : IntKind.i64.wrap ((j : Int) + 1) = ((j + 1 : Nat) : Int) := by rw [IntWalk.i64_in _ (by omega)]; rfl
      clear he2 he3 hcells x0 x1 x2 hx
      by_cases hk : 1 ≤ key
      · have hk1 : decide (1 ≤ key) = true := decide_eq_true hk
        go_wp2_with fail
        refine (di_step HI.out op key val (by omega) hk).mono ?_
        rintro e w4 ⟨rfl, K', ids', hI', hm', _⟩
        have HI' := Lib.hid hI'
        clear hI'
        go_wp2_with fail
        go_roundg (l.length - j - 1)
        case measure => omega
        case rel => exact ⟨j + 1, K', ids', by omega, rfl, HI', by omega⟩
      · have hk1 : decide (1 ≤ key) = false := decide_eq_false hk
        go_wp2_with fail
        go_roundg (l.length - j - 1)
        case measure => omega
        case rel => exact ⟨j + 1, K, ids, by omega, rfl, HI, by omega⟩
    · have hlt0 : decide (j < l.length) = false := decide_eq_false (by omega)
      clear hlt
      obtain ⟨K2, hK2⟩ : ∃ K2, (if (lookR K pid).1.2.1 = 1 then ins pid (pid, 2, IntKind.i64.wrap (ids + 1)) K else K) = K2 := ⟨_, rfl⟩
      obtain ⟨i2, hi2⟩ : ∃ i2, (if (lookR K pid).1.2.1 = 1 then IntKind.i64.wrap (ids + 1) else ids) = i2 := ⟨_, rfl⟩
      obtain ⟨n2, hn2⟩ : ∃ n2, (if (lookR K pid).1.2.1 = 1 then IntKind.i64.wrap (ids + 1) else 0) = n2 := ⟨_, rfl⟩
      obtain ⟨q2, hq2⟩ : ∃ q2, decide ((lookR K pid).1.2.1 = 1) = q2 := ⟨_, rfl⟩
      have hdf : Deaf K2 pid := hK2 ▸ unlink_deaf HI.out.ok.rising pid _
      have hok : KOk K2 := by
        rw [← hK2]
        split
        · exact HI.out.ok.ins hp1 _ _ (.inr rfl)
        · exact HI.out.ok
      have hmk2 : K2.length ≤ 2001 := by
        have := len_ins pid (pid, 2, IntKind.i64.wrap (ids + 1)) K
        rw [← hK2]
        split <;> omega
      have hA := tl_unlink HI.out.two pid (by omega)
      have hB : ∀ w', Two w w' lb tb rb K2 i2 K ids → Calls Try.prog 11 #[.pointer (some ⟨rb, 0, none⟩), .int .i64 pid] w' fun e w'' => e = .returned (.tuple #[.int .i64 n2, .bool q2]) ∧ Two w w'' lb tb rb K2 i2 K2 i2 ∧ Kept w' w'' := by
        intro w' h
        have := tr_unlink h pid (by omega) HI.out.ok.rising HI.out.ok.states
        rw [hn2, hq2, hK2, hi2] at this
        exact this
      rw [hn2, hq2, hK2, hi2] at hA
      have HB := Lib.hid hB
      have HDF := Lib.hid hdf
      have HOK := Lib.hid hok
      clear hK2 hi2 hn2 hq2 hdf hok hB HI
      go_wp2_with fail
      refine hA.mono ?_
      rintro e w5 ⟨rfl, hP5, _⟩
      have hB5 := HB.out w5 hP5
      clear hA hP5 HB
      go_wp2_with fail
      refine hB5.mono ?_
      rintro e w6 ⟨rfl, hP6, _⟩
      have HI : Hid (DI w w6 lb tb rb K2 i2) := Lib.hid ⟨hP6, HOK.out⟩
      clear hB5 hP6 HOK
      clear hj hmk
      go_wp2_with fail
      go_loopg [10, 11, 12, 13, 14, 15] rest.length (fun g i x was is now still wr => ∃ (j : Nat) (K : List (Int × (Int × Int × Int))) (ids : Int), j + g = rest.length ∧ i = .int .i64 j ∧ Hid (DI w wr lb tb rb K ids) ∧ K.length ≤ 2001 + j ∧ Hid (Deaf K pid))
      case atStart => exact ⟨0, K2, i2, by omega, rfl, HI, by omega, HDF⟩
      case round =>
        clear HI HDF hmk2
        obtain ⟨j, K, ids, hj, rfl, HI, hmk, HD⟩ := hrel
        by_cases hlt : (j : Int) < (rest.length : Int)
        · obtain ⟨⟨op, key, val⟩, hx⟩ : ∃ x, rest[j]? = some x := ⟨rest[j]'(by omega), List.getElem?_eq_getElem (by omega)⟩
          obtain ⟨so, cap', he, hcells⟩ := HA1.out
          obtain ⟨b, o, rfl, hb, x0, x1, x2⟩ := hcells j _ hx
          injection he with he1 he2 he3
          subst he1
          have d0 := (HI.out.two.below.cell (p := ⟨b, o + j * 3, none⟩) hb).trans x0
          have d1 := (HI.out.two.below.cell (p := ⟨b, o + j * 3 + 1, none⟩) hb).trans x1
          have d2 := (HI.out.two.below.cell (p := ⟨b, o + j * 3 + 2, none⟩) hb).trans x2
          simp only [] at d0 d1 d2
          have e2 : IntKind.i64.wrap ((j : Int) + 1) = ((j + 1 : Nat) : Int) := by rw [IntWalk.i64_in _ (by omega)]; rfl
          clear he2 he3 hcells x0 x1 x2 hx
          have hI2 := HI.out.ext ((Ext.refl wr).alloc (.cells #[.int .i64 op, .int .i64 key, .int .i64 val] 31))
          have hxb := heap_alloc_new wr (.cells #[.int .i64 op, .int .i64 key, .int .i64 val] 31)
          have c0 := cell_of_heap hxb 0
          have c1 := cell_of_heap hxb 1
          have c2 := cell_of_heap hxb 2
          simp only [List.getElem?_toArray, List.getElem?_cons_zero, List.getElem?_cons_succ] at c0 c1 c2
          clear hxb
          by_cases hk : 1 ≤ key
          · have hk1 : decide (key < 1) = false := decide_eq_false (by omega)
            by_cases hn : key = pid ∧ (op = 1 ∨ op = 3 ∨ op = 7)
            · obtain ⟨hkp, hop⟩ := hn
              have hkb : (key == pid) = true := beq_iff_eq.2 hkp
              clear hkp
              rcases hop with rfl | rfl | rfl
              all_goals go_wp2_with fail
              all_goals go_roundg (rest.length - j - 1)
              all_goals first
                | omega
                | exact ⟨j + 1, K, ids, by omega, rfl, Lib.hid hI2, by omega, HD⟩
            · by_cases hkp : key = pid
              · have hkb : (key == pid) = true := beq_iff_eq.2 hkp
                have b1 : (op == 1) = false := beq_eq_false_iff_ne.2 (fun e => hn ⟨hkp, .inl e⟩)
                have b3 : (op == 3) = false := beq_eq_false_iff_ne.2 (fun e => hn ⟨hkp, .inr (.inl e)⟩)
                have b7 : (op == 7) = false := beq_eq_false_iff_ne.2 (fun e => hn ⟨hkp, .inr (.inr e)⟩)
                have HN := Lib.hid hn
                clear hkp hn
                go_wp2_with fail
                have hn := HN.out
                refine (di_step hI2 op key val (by omega) hk).mono ?_
                rintro e w4 ⟨rfl, K', ids', hI', hm', hdf⟩
                have hd' := hdf pid HD.out hn
                have HI' := Lib.hid hI'
                have HD' := Lib.hid hd'
                obtain ⟨c4, _, _⟩ := hI'.two.lt.cells
                have hg := tk_get pid w4 hI'.two.lt.tree
                obtain ⟨gv, hgv⟩ : ∃ gv, lookR K' pid = gv := ⟨_, rfl⟩
                rw [hgv] at hg
                have HG := Lib.hid hgv
                clear hI' hd' hdf hgv hI2 c0 c1 c2
                go_wp2_with fail
                refine hg.mono ?_
                rintro e w5 ⟨rfl, hE5⟩
                have hz5 := Box3.new w5 gv.1
                have hI5 := HI'.out.ext (hE5.alloc (.cells #[.int .i64 gv.1.1, .int .i64 gv.1.2.1, .int .i64 gv.1.2.2] 36))
                clear hE5 hg
                go_wp2_with fail
                refine (exit_deaf hI5.two HD'.out (by omega) hz5).mono ?_
                rintro e w6 ⟨rfl, hT6, hz6⟩
                have hg2 := tk_get pid w6 hT6.lt.tree
                rw [HG.out] at hg2
                obtain ⟨c6, _, _⟩ := hT6.lt.cells
                have HT6 := Lib.hid hT6
                have HZ6 := Lib.hid hz6
                clear hT6 hz6 hI5 hz5 c4
                go_wp2_with fail
                refine hg2.mono ?_
                rintro e w7 ⟨rfl, hE7⟩
                have hE8 := hE7.alloc (.cells #[.int .i64 gv.1.1, .int .i64 gv.1.2.1, .int .i64 gv.1.2.2] 36)
                obtain ⟨g0, g1, g2, _, _, _⟩ := Box3.cells (hE8.keep HZ6.out)
                obtain ⟨f0, f1, f2, _, _, _⟩ := Box3.cells (Box3.new w7 gv.1)
                have HF : Hid (DI w (w7.alloc (.cells #[.int .i64 gv.1.1, .int .i64 gv.1.2.1, .int .i64 gv.1.2.2] 36)) lb tb rb K' ids') := Lib.hid ⟨HT6.out.ext hE8, HI'.out.ok⟩
                clear hE7 hE8 hg2 c6
                go_wp2_with fail
                go_roundg (rest.length - j - 1)
                case measure => omega
                case rel => exact ⟨j + 1, K', ids', by omega, rfl, HF, by omega, HD'⟩
              · have hkb : (key == pid) = false := beq_eq_false_iff_ne.2 hkp
                have HN := Lib.hid hn
                clear hkp hn
                go_wp2_with fail
                have hn := HN.out
                refine (di_step hI2 op key val (by omega) hk).mono ?_
                rintro e w4 ⟨rfl, K', ids', hI', hm', hdf⟩
                have hd' := hdf pid HD.out hn
                have HI' := Lib.hid hI'
                have HD' := Lib.hid hd'
                obtain ⟨c4, _, _⟩ := hI'.two.lt.cells
                have hg := tk_get pid w4 hI'.two.lt.tree
                obtain ⟨gv, hgv⟩ : ∃ gv, lookR K' pid = gv := ⟨_, rfl⟩
                rw [hgv] at hg
                have HG := Lib.hid hgv
                clear hI' hd' hdf hgv hI2 c0 c1 c2
                go_wp2_with fail
                refine hg.mono ?_
                rintro e w5 ⟨rfl, hE5⟩
                have hz5 := Box3.new w5 gv.1
                have hI5 := HI'.out.ext (hE5.alloc (.cells #[.int .i64 gv.1.1, .int .i64 gv.1.2.1, .int .i64 gv.1.2.2] 36))
                clear hE5 hg
                go_wp2_with fail
                refine (exit_deaf hI5.two HD'.out (by omega) hz5).mono ?_
                rintro e w6 ⟨rfl, hT6, hz6⟩
                have hg2 := tk_get pid w6 hT6.lt.tree
                rw [HG.out] at hg2
                obtain ⟨c6, _, _⟩ := hT6.lt.cells
                have HT6 := Lib.hid hT6
                have HZ6 := Lib.hid hz6
                clear hT6 hz6 hI5 hz5 c4
                go_wp2_with fail
                refine hg2.mono ?_
                rintro e w7 ⟨rfl, hE7⟩
                have hE8 := hE7.alloc (.cells #[.int .i64 gv.1.1, .int .i64 gv.1.2.1, .int .i64 gv.1.2.2] 36)
                obtain ⟨g0, g1, g2, _, _, _⟩ := Box3.cells (hE8.keep HZ6.out)
                obtain ⟨f0, f1, f2, _, _, _⟩ := Box3.cells (Box3.new w7 gv.1)
                have HF : Hid (DI w (w7.alloc (.cells #[.int .i64 gv.1.1, .int .i64 gv.1.2.1, .int .i64 gv.1.2.2] 36)) lb tb rb K' ids') := Lib.hid ⟨HT6.out.ext hE8, HI'.out.ok⟩
                clear hE7 hE8 hg2 c6
                go_wp2_with fail
                go_roundg (rest.length - j - 1)
                case measure => omega
                case rel => exact ⟨j + 1, K', ids', by omega, rfl, HF, by omega, HD'⟩
          · have hk1 : decide (key < 1) = true := decide_eq_true (by omega)
            go_wp2_with fail
            go_roundg (rest.length - j - 1)
            case measure => omega
            case rel => exact ⟨j + 1, K, ids, by omega, rfl, Lib.hid hI2, by omega, HD⟩
        · have hlt0 : decide (j < rest.length) = false := decide_eq_false (by omega)
          clear hlt
          go_wp2_with fail
          go_ret
          exact ⟨rfl, HI.out.two.below⟩

end Go.Proofs.Ytoofhccjjhhipaa
