/- MonsOnce's walk. -/
import Derived.Test.YtjgpoggbakanlaaVMonsKnown
import Derived.Deep.LoopGhost
namespace Go.Proofs.Ytjgpoggbakanlaa
open Go.RowKit Go.Shelf
attribute [local irreducible] Ext

/-- What Watch tells, where the reference is the one that is looked at. -/
theorem watch_tells {t : Tr (Int × Int × ByteArray)} (n pid : Int) (name : ByteArray) (o : Bool) (ho : (getR t n).2 = o) :
    (if pid < 0 ∨ bad t (n, pid, name) = true then (1 : Int) else 0) = if (!o && decide (1 ≤ n) && decide (0 ≤ pid)) = true then 0 else 1 := by
  unfold bad
  simp only [ho]
  by_cases h1 : pid < 0
  · have h2 : ¬ 0 ≤ pid := by omega
    simp [h1, h2]
  · have h2 : 0 ≤ pid := by omega
    by_cases h3 : n < 1
    · have h4 : ¬ 1 ≤ n := by omega
      simp [h1, h2, h3, h4]
    · have h4 : 1 ≤ n := by omega
      cases o <;> simp [h1, h2, h3, h4]

theorem watch_open {t : Tr (Int × Int × ByteArray)} (hs : t.sorted) (n pid : Int) (name : ByteArray) (o : Bool) (ho : (getR t n).2 = o) :
    (getR (if pid < 0 then t else put1 t (n, pid, name)) n).2 = (o || (!o && decide (1 ≤ n) && decide (0 ≤ pid))) := by
  by_cases h1 : pid < 0
  · have h2 : ¬ 0 ≤ pid := by omega
    simp [h1, h2, ho]
  · have h2 : 0 ≤ pid := by omega
    rw [if_neg h1, has_put1 hs]
    unfold bad
    simp only [ho, if_true]
    by_cases h3 : n < 1
    · have h4 : ¬ 1 ≤ n := by omega
      simp [h2, h3, h4]
    · have h4 : 1 ≤ n := by omega
      cases o <;> simp [h2, h3, h4]

theorem watch_other {t : Tr (Int × Int × ByteArray)} (hs : t.sorted) (ref n pid : Int) (name : ByteArray) (h : ref ≠ n) :
    (getR (if pid < 0 then t else put1 t (ref, pid, name)) n).2 = (getR t n).2 := by
  by_cases h1 : pid < 0
  · rw [if_pos h1]
  · rw [if_neg h1, has_put1 hs, if_neg h]

theorem watch_many (t : Tr (Int × Int × ByteArray)) (m : (Int × Int × ByteArray)) (pid k : Int) : (if pid < k then t else put1 t m).many ≤ t.many + 1 := by
  split
  · omega
  · exact many_put1 t m

theorem many_dropped' (t : Tr (Int × Int × ByteArray)) (k : Int) : (dropped t k).many ≤ t.many + 1 := by
  have := many_dropped t k
  omega

/-- An act in its box. -/
def ActBox (wb : World) (xb : Nat) (op ref pid : Int) (name : ByteArray) : Prop := wb.heap[xb]? = some (.cells #[.int .i64 op, .int .i64 ref, .int .i64 pid, .string name] 27 (0, 0))

theorem ActBox.cells {wb : World} {xb : Nat} {op ref pid : Int} {name : ByteArray} (h : ActBox wb xb op ref pid name) :
    wb.cell? ⟨xb, 0, none⟩ = some (.int .i64 op) ∧ wb.cell? ⟨xb, 1, none⟩ = some (.int .i64 ref) ∧ wb.cell? ⟨xb, 2, none⟩ = some (.int .i64 pid) ∧ wb.cell? ⟨xb, 3, none⟩ = some (.string name) := by
  unfold ActBox at h
  exact ⟨by simp [cell_of_heap h], by simp [cell_of_heap h], by simp [cell_of_heap h], by simp [cell_of_heap h]⟩

theorem ActBox.mod {wb w' : World} {xb b : Nat} {op ref pid : Int} {name : ByteArray} {t : Tr (Int × Int × ByteArray)} (h : ActBox wb xb op ref pid name) (ht : TreeAt wb b t) (hM : Mod (fun k => k = b) wb w') : ActBox w' xb op ref pid name := by
  refine hM.keep h ?_
  rintro rfl
  obtain ⟨p, hp, _⟩ := ht
  rw [show wb.heap[xb]? = _ from h] at hp
  injection hp with hp
  injection hp with _ e
  exact absurd e (by decide)

set_option maxRecDepth 100000 in
set_option maxHeartbeats 8000000 in
theorem monsOnce_any (a0 : Option Addr) (cap : Nat) (l : List (Int × Int × Int × ByteArray)) (n : Int) (w : World) (ha : ArgMs w.heap.size w (.slice a0 l.length cap) l) (hl : ∀ x ∈ l, -9223372036854775808 ≤ x.2.1 ∧ x.2.1 ≤ 9223372036854775807) :
    Calls Try.prog 3 #[.slice a0 l.length cap, .int .i64 n] w fun e w' => e = .returned (.bool true) ∧ Below w.heap.size w w' := by
  have HA := Lib.hid ha
  have HL := Lib.hid hl
  clear ha hl
  go_enter Try.func3, Try.ntmps3
  go_wp2_with fail
  refine (mknown_any w).mono ?_
  rintro e w1 ⟨rfl, hM1⟩
  have hB1 : Below w.heap.size w w1 := hM1.below (Nat.le_refl _) (fun _ h => h.elim)
  clear hM1
  by_cases hbig : 2000 < l.length
  · have hb1 : decide ((2000 : Int) < (l.length : Int)) = true := decide_eq_true (by omega)
    clear hbig
    go_wp2_with fail
    go_ret
    exact ⟨rfl, hB1⟩
  have hb1 : decide ((2000 : Int) < (l.length : Int)) = false := decide_eq_false (by omega)
  have hlen : l.length ≤ 2000 := by omega
  clear hbig
  go_wp2_with fail
  refine (mnew_any _).mono ?_
  rintro e w2 ⟨mb, ob, gb, rfl, h2, hE2, hmb, hob, hgb⟩
  have hs1 := hB1.size
  have HI := Lib.hid (show MInv w w2 mb ob gb .nil .nil from ⟨h2, hB1.trans (hE2.below.mono hs1), by omega, by omega⟩)
  clear h2 hE2 hmb hob hgb hB1 hs1 hb1
  clear w1
  go_wp2_with fail
  go_loopg [6, 7] l.length (fun g o i wr => ∃ (j : Nat) (t u : Tr (Int × Int × ByteArray)), j + g = l.length ∧ i = .int .i64 j ∧ o = .bool (getR t n).2 ∧ Hid (MInv w wr mb ob gb t u) ∧ t.many ≤ j ∧ u.many ≤ j)
  case atStart => exact ⟨0, .nil, .nil, by omega, rfl, rfl, HI, Int.le_refl _, Int.le_refl _⟩
  case round =>
    clear HI w2
    obtain ⟨j, t, u, hj, rfl, rfl, HI, hmt, hmu⟩ := hrel
    by_cases hlt : (j : Int) < (l.length : Int)
    · obtain ⟨⟨op, ref, pid, name⟩, hx⟩ : ∃ x, l[j]? = some x := ⟨l[j]'(by omega), List.getElem?_eq_getElem (by omega)⟩
      obtain ⟨so, cap', he, hcells⟩ := HA.out
      obtain ⟨b, o, rfl, hb, x0, x1, x2, x3⟩ := hcells j _ hx
      injection he with he1 he2 he3
      subst he1
      have d0 := (HI.out.below.cell (p := ⟨b, o + j * 4, none⟩) hb).trans x0
      have d1 := (HI.out.below.cell (p := ⟨b, o + j * 4 + 1, none⟩) hb).trans x1
      have d2 := (HI.out.below.cell (p := ⟨b, o + j * 4 + 2, none⟩) hb).trans x2
      have d3 := (HI.out.below.cell (p := ⟨b, o + j * 4 + 3, none⟩) hb).trans x3
      simp only [] at d0 d1 d2 d3
      have hkr := HL.out _ (List.mem_of_getElem? hx)
      simp only [] at hkr
      have hk0 := hkr.1
      have hm9 : t.many < 1000000000 := by omega
      have hu9 : u.many < 1000000000 := by omega
      have e2 : IntKind.i64.wrap ((j : Int) + 1) = ((j + 1 : Nat) : Int) := by rw [IntWalk.i64_in _ (by omega)]; rfl
      clear he2 he3 hcells x0 x1 x2 x3 hx hkr
      have hIb := HI.out.ext ((Ext.refl wr).alloc (.cells #[.int .i64 op, .int .i64 ref, .int .i64 pid, .string name] 27))
      have hxb : ActBox (wr.alloc (.cells #[.int .i64 op, .int .i64 ref, .int .i64 pid, .string name] 27)) wr.heap.size op ref pid name := heap_alloc_new wr _
      obtain ⟨o, ho⟩ : ∃ o, (getR t n).2 = o := ⟨_, rfl⟩
      rw [ho]
      by_cases h7 : op = 7
      · subst h7
        clear hIb hxb
        go_wp2_with fail
        go_roundg (l.length - j - 1)
        case measure => omega
        case rel => exact ⟨j + 1, t, u, by omega, rfl, by rw [ho], Lib.hid (HI.out.ext ((Ext.refl wr).alloc _)), by omega, by omega⟩
      have b7 : (op == 7) = false := beq_eq_false_iff_ne.2 h7
      by_cases h1 : op = 1
      · subst h1
        have hw := watch_any ref pid name _ hIb.at_ hm9 hk0
        have hmd := watch_many t (ref, pid, name) pid 0
        have HI2 := Lib.hid hIb
        have HX := Lib.hid hxb
        clear hIb hxb
        by_cases hrn : ref = n
        · subst hrn
          rw [watch_tells ref pid name o ho] at hw
          have hopen := watch_open HI.out.at_.st ref pid name o ho
          have HO := Lib.hid hopen
          have HM := Lib.hid hmd
          clear hopen hmd
          have hrr : (ref == ref) = true := by simp
          cases o <;> cases g1 : decide (1 ≤ ref) <;> cases g2 : decide (0 ≤ pid)
          all_goals
            rw [g1, g2] at hw HO
            simp only [Bool.not_true, Bool.not_false, Bool.and_true, Bool.and_false, Bool.or_true, Bool.or_false, Bool.false_eq_true, if_true, if_false] at hw HO
            clear ho
            go_wp2_with fail
            refine hw.mono ?_
            rintro e w3 ⟨rfl, hA3, hM3⟩
            obtain ⟨y0, y1, y2, y3⟩ := (HX.out.mod HI2.out.at_.org hM3).cells
            have H3 := Lib.hid (HI2.out.o hA3 hM3)
            clear hw hA3 hM3
            go_wp2_with fail
            go_roundg (l.length - j - 1)
            case measure => omega
            case rel => exact ⟨j + 1, _, u, by omega, rfl, by rw [HO.out], H3, by have := HM.out; omega, by omega⟩
        · have hrn' : (ref == n) = false := beq_eq_false_iff_ne.2 hrn
          have hopen := watch_other HI.out.at_.st ref n pid name hrn
          rw [ho] at hopen
          have HO := Lib.hid hopen
          have HM := Lib.hid hmd
          obtain ⟨r, hr'⟩ : ∃ r : Int, (if pid < 0 ∨ bad t (ref, pid, name) = true then 1 else 0) = r := ⟨_, rfl⟩
          rw [hr'] at hw
          clear hrn hopen hmd hr'
          go_wp2_with fail
          refine hw.mono ?_
          rintro e w3 ⟨rfl, hA3, hM3⟩
          obtain ⟨y0, y1, y2, y3⟩ := (HX.out.mod HI2.out.at_.org hM3).cells
          have H3 := Lib.hid (HI2.out.o hA3 hM3)
          clear hw hA3 hM3
          go_wp2_with fail
          go_roundg (l.length - j - 1)
          case measure => omega
          case rel => exact ⟨j + 1, _, u, by omega, rfl, by rw [HO.out], H3, by have := HM.out; omega, by omega⟩
      have b1 : (op == 1) = false := beq_eq_false_iff_ne.2 h1
      by_cases h2 : op = 2
      · subst h2
        have hd := demonitor_any ref _ hIb.at_ hm9
        have hmd := many_dropped' t ref
        have HI2 := Lib.hid hIb
        have HX := Lib.hid hxb
        clear hIb hxb
        go_wp2_with fail
        refine hd.mono ?_
        rintro e w3 ⟨rfl, hA3, hM3⟩
        obtain ⟨y0, y1, y2, y3⟩ := (HX.out.mod HI2.out.at_.org hM3).cells
        have H3 := Lib.hid (HI2.out.o hA3 hM3)
        clear hd hA3 hM3
        by_cases hrn : ref = n
        · subst hrn
          rw [ho]
          have hz : (o != o) = false := by cases o <;> rfl
          go_wp2_with fail
          go_roundg (l.length - j - 1)
          case measure => omega
          case rel => exact ⟨j + 1, dropped t ref, u, by omega, rfl, by rw [has_dropped HI.out.at_.st]; simp, H3, by omega, by omega⟩
        · have hrn' : (ref == n) = false := beq_eq_false_iff_ne.2 hrn
          have HRN := Lib.hid hrn
          clear hrn
          go_wp2_with fail
          go_roundg (l.length - j - 1)
          case measure => omega
          case rel => exact ⟨j + 1, dropped t ref, u, by omega, rfl, by rw [has_dropped HI.out.at_.st, if_neg HRN.out, ho], H3, by omega, by omega⟩
      have b2 : (op == 2) = false := beq_eq_false_iff_ne.2 h2
      by_cases h3 : op = 3
      · subst h3
        have hd := onDown_any ref _ hIb.at_ hm9
        have hmd := many_dropped' t ref
        have HI2 := Lib.hid hIb
        have HX := Lib.hid hxb
        clear hIb hxb
        go_wp2_with fail
        refine hd.mono ?_
        rintro e w3 ⟨rfl, hA3, hM3⟩
        obtain ⟨y0, y1, y2, y3⟩ := (HX.out.mod HI2.out.at_.org hM3).cells
        have H3 := Lib.hid (HI2.out.o hA3 hM3)
        clear hd hA3 hM3
        by_cases hrn : ref = n
        · subst hrn
          rw [ho]
          have hz : (o != o) = false := by cases o <;> rfl
          go_wp2_with fail
          go_roundg (l.length - j - 1)
          case measure => omega
          case rel => exact ⟨j + 1, dropped t ref, u, by omega, rfl, by rw [has_dropped HI.out.at_.st]; simp, H3, by omega, by omega⟩
        · have hrn' : (ref == n) = false := beq_eq_false_iff_ne.2 hrn
          have HRN := Lib.hid hrn
          clear hrn
          go_wp2_with fail
          go_roundg (l.length - j - 1)
          case measure => omega
          case rel => exact ⟨j + 1, dropped t ref, u, by omega, rfl, by rw [has_dropped HI.out.at_.st, if_neg HRN.out, ho], H3, by omega, by omega⟩
      have b3 : (op == 3) = false := beq_eq_false_iff_ne.2 h3
      by_cases h4 : op = 4
      · subst h4
        have hd := onMonitor_any ref pid _ hIb.at_ hu9 hk0
        obtain ⟨r, hr'⟩ : ∃ r : Int, (if pid < 1 ∨ bad u (ref, pid, ⟨#[]⟩) = true then 1 else 0) = r := ⟨_, rfl⟩
        rw [hr'] at hd
        clear hr'
        have hmd := watch_many u (ref, pid, ⟨#[]⟩) pid 1
        have HI2 := Lib.hid hIb
        clear hIb hxb
        go_wp2_with fail
        refine hd.mono ?_
        rintro e w3 ⟨rfl, hA3, hM3⟩
        have H3 := Lib.hid (HI2.out.g hA3 hM3)
        clear hd hA3 hM3
        go_wp2_with fail
        go_roundg (l.length - j - 1)
        case measure => omega
        case rel => exact ⟨j + 1, t, (if pid < 1 then u else put1 u (ref, pid, ⟨#[]⟩)), by omega, rfl, by rw [ho], H3, by omega, by omega⟩
      have b4 : (op == 4) = false := beq_eq_false_iff_ne.2 h4
      by_cases h5 : op = 5
      · subst h5
        have hd := onDemonitor_any ref _ hIb.at_ hu9
        have hmd := many_dropped' u ref
        have HI2 := Lib.hid hIb
        clear hIb hxb
        go_wp2_with fail
        refine hd.mono ?_
        rintro e w3 ⟨rfl, hA3, hM3⟩
        have H3 := Lib.hid (HI2.out.g hA3 hM3)
        clear hd hA3 hM3
        go_wp2_with fail
        go_roundg (l.length - j - 1)
        case measure => omega
        case rel => exact ⟨j + 1, t, dropped u ref, by omega, rfl, by rw [ho], H3, by omega, by omega⟩
      have b5 : (op == 5) = false := beq_eq_false_iff_ne.2 h5
      by_cases h6 : op = 6
      · subst h6
        have hd := popTarget_any _ hIb.at_ hu9
        have hmd := many_dropped' u (firstK u.list)
        have HI2 := Lib.hid hIb
        clear hIb hxb
        go_wp2_with fail
        refine hd.mono ?_
        rintro e w3 ⟨rfl, hA3, hM3⟩
        have H3 := Lib.hid (HI2.out.g hA3 hM3)
        clear hd hA3 hM3
        go_wp2_with fail
        go_roundg (l.length - j - 1)
        case measure => omega
        case rel => exact ⟨j + 1, t, dropped u (firstK u.list), by omega, rfl, by rw [ho], H3, by omega, by omega⟩
      have b6 : (op == 6) = false := beq_eq_false_iff_ne.2 h6
      clear h1 h2 h3 h4 h5 h6 h7
      clear hIb hxb
      go_wp2_with fail
      go_roundg (l.length - j - 1)
      case measure => omega
      case rel => exact ⟨j + 1, t, u, by omega, rfl, by rw [ho], Lib.hid (HI.out.ext ((Ext.refl wr).alloc _)), by omega, by omega⟩
    · obtain rfl : j = l.length := by omega
      clear hlt
      go_wp2_with fail
      go_ret
      exact ⟨rfl, HI.out.below⟩

end Go.Proofs.Ytjgpoggbakanlaa
