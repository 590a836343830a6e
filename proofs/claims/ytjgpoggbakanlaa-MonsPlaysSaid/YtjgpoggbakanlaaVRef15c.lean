/- The document's halves of monitors: with. -/
import Derived.Test.YtjgpoggbakanlaaVRef15b
import Derived.Deep.RegionHeld3
import Derived.Deep.DeepCutAuto
import Derived.Deep.CutRange
namespace Go.Proofs.Ytjgpoggbakanlaa
open Go.RowKit
attribute [local irreducible] Ext

theorem alloc_at (w : World) (o : Obj) (k : Nat) : (w.alloc o).heap[k]? = if k = w.heap.size then some o else w.heap[k]? := by
  show (w.heap.push o)[k]? = _
  rw [Array.getElem?_push]

theorem drew_size (w : World) : w.drew.heap.size = w.heap.size := rfl

theorem drew_at (w : World) (k : Nat) : w.drew.heap[k]? = w.heap[k]? := rfl

theorem step_copy3 {P : Program} {w : World} {ops : Array Oper} {o : Oper} {a : Act} {K : Act → World → Prop} {Q : Exit → Act → World → Prop} {E : Prop} (hgd : o.guard = none) (s x : Operand) (t : TypeId)
    (ho : o.op = .call { callee := .builtin .append, args := #[s, x], argTypes := #[t, t] })
    (e : TypeId) (i : TypeInfo) (z : Value) (bytes : Nat) (ht : P.underlying t = some (.slice e)) (hi : P.info? e = some i) (hz : i.zero = some z)
    (hsize : i.size = 3) (hby : i.bytes = bytes) (hzs : z.cells.size = 3)
    {wa : World} {so : Option Addr} {m c : Nat} {news : List Value} (hsrc : Src wa so news) (hl : news.length = m * 3) (hE : Ext wa w) (g : Nat) (hs : a.eval s = .slice (some ⟨g, 0, none⟩) 0 0) (hg : wa.heap.size ≤ g) (hf : w.heap[g]? = some (.cells #[] e (0, 0)))
    (hx : a.eval x = .slice so m c) (h1 : ∀ u ∈ news, u.oneCell' = true) (h63 : m ≤ 1000000000) (hbytes : bytes ≤ 1000)
    (h : ∀ so' sc w', w'.ownsRow wa.heap.size e 3 (.slice so' m sc) m news → Mod (fun k => k = g) w w' → Ext wa w' → K (a.put o.dst (.slice so' m sc)) w') :
    if Region.wanted o (yielded ops a.tmps) = true then Oper.wp P o a w K Q else E := by
  refine step_app_first hgd s x t ho wa.heap.size e i z 3 bytes ht hi hz hsize hby hzs (by decide) _ hs (fresh_at hg hf) so m c news hx hl (hsrc.ext hE) h1 h63 hbytes (Ext.size hE) ?_
  intro so' sc w' h2 h3
  refine h so' sc w' h2 (h3.mono (fun k _ e => (Option.some.inj e))) (ext_of_mod hE h3 (fun k e => ?_))
  have : k = g := Option.some.inj e
  omega

/-- One element's cells, in a block of its own. -/
theorem src_one {w : World} {g : Nat} (x : (Int × Int × ByteArray)) (h : w.heap[g]? = some (.cells #[.int .i64 x.1, .int .i64 x.2.1, .string x.2.2] 31 (0, 0))) : Src w (some ⟨g, 0, none⟩) [.int .i64 x.1, .int .i64 x.2.1, .string x.2.2] := by
  intro j u hu
  refine ⟨_, rfl, ?_⟩
  have e : (⟨g, 0, none⟩ : Addr).add j = ⟨g, j, none⟩ := by unfold Addr.add; split <;> simp_all
  rw [e, cell_of_heap h j, ← hu]
  simp

set_option maxRecDepth 100000 in
set_option maxHeartbeats 4000000 in
theorem with15 {v : Value} {L : List (Int × Int × ByteArray)} (x : (Int × Int × ByteArray)) (w : World) (h : Row3 w v L) (hL : L.length ≤ 1000000) {j : Nat} (hj : j ≤ L.length) :
    Calls Try.prog 45 #[v, .int .i64 j, .agg #[.int .i64 x.1, .int .i64 x.2.1, .string x.2.2]] w fun e w' => ∃ v', e = .returned v' ∧ Row3 w' v' (L.take j ++ x :: L.drop j) ∧ Ext w w' ∧ ∀ k, v'.ownBlock = some k → w.heap.size ≤ k := by
  have s0 : (0 : Int) ≤ (j : Int) := by omega
  have hl1 : (fl (L.take j)).length = j * 3 := by rw [fl_length, List.length_take, Nat.min_eq_left (by omega)]
  have hl2 : (fl (L.drop j)).length = (L.length - j) * 3 := by rw [fl_length, List.length_drop]
  obtain ⟨wa, hwa⟩ : ∃ wa, w.alloc (.cells #[.int .i64 x.1, .int .i64 x.2.1, .string x.2.2] 31) = wa := ⟨_, rfl⟩
  have hEa : Ext w wa := hwa ▸ (Ext.refl w).alloc _
  have hbx : Box3 wa w.heap.size x := hwa ▸ heap_alloc_new w _
  have hm0 : ∀ w', Ext wa w' → w'.cell? ⟨w.heap.size, 0, none⟩ = some (.int .i64 x.1) := fun w' hE => (Box3.cells (hE.keep hbx)).1
  have hm1 : ∀ w', Ext wa w' → w'.cell? ⟨w.heap.size, 1, none⟩ = some (.int .i64 x.2.1) := fun w' hE => (Box3.cells (hE.keep hbx)).2.1
  have hm2 : ∀ w', Ext wa w' → w'.cell? ⟨w.heap.size, 2, none⟩ = some (.string x.2.2) := fun w' hE => (Box3.cells (hE.keep hbx)).2.2.1
  have hE0 := Ext.refl wa
  obtain ⟨i0, hi, hz0, hz1, hz2⟩ := info_parts info3
  rcases h.slice with ⟨rfl, rfl⟩ | ⟨ga, capa, rfl, hcap⟩
  · obtain rfl : j = 0 := by simpa using hj
    have HA := Lib.hid hEa
    have hsrc1 : Src wa none [] := Src.nil _ _
    have hsz : w.heap.size + 1 = wa.heap.size := by rw [← hwa]; simp
    have HW := Lib.hid hwa
    clear hEa hbx hwa h hl1 hl2
    go_enter Try.func45, Try.ntmps45
    go_upto_region 1 with (fail)
    rw [HW.out]
    go_cut [7] from 8 to 15 (fun u wx => ∃ so sc, u = .slice so 1 sc ∧ wx.ownsRow wa.heap.size 31 3 (.slice so 1 sc) 1 [.int .i64 x.1, .int .i64 x.2.1, .string x.2.2] ∧ Ext wa wx)
    case first =>
      go_region_held3 (fun w' => Ext wa w') (first | assumption | (repeat (first | assumption | apply Ext.drew | apply Ext.alloc)))
        (first
          | (refine step_copy3 (by rfl) _ _ 39 (by rfl) 31 i0 (.agg #[.int .i64 0, .int .i64 0, .string ⟨#[]⟩]) 32 Try.underlying39 hi hz0 hz1 hz2 rfl hsrc1 rfl ?_ _ (by rfl) ?_ ?_ (by rfl) (by simp) (by omega) (by decide) ?_
             skip
             · (repeat (first | assumption | apply Ext.drew | apply Ext.alloc))
             · first | omega | (simp; done) | (simp; omega)
             · ((try simp only [drew_at, alloc_at, World.size_alloc, if_true]) <;> (repeat' split) <;> first | rfl | (exfalso; omega) | contradiction)
             intro so1 sc1 w1 hown1 hM1 hE1)
          | (refine step_app (by rfl) _ _ 39 (by rfl) wa.heap.size 31 i0 (.agg #[.int .i64 0, .int .i64 0, .string ⟨#[]⟩]) 3 32 Try.underlying39 hi hz0 hz1 hz2 rfl (by decide) _ 0 [] (by rfl) ?_ _ 1 1 [.int .i64 x.1, .int .i64 x.2.1, .string x.2.2] (by rfl) rfl ?_ (by simp [Value.oneCell']) (by omega) (by decide) ?_ ?_
             skip
             · first | exact hown1 | exact hown1.alloc _
             · refine src_one x ?_
               skip
               first
                 | exact heap_alloc_new w1 _
                 | (refine hM1.keep ?_ ?_
                    · ((try simp only [drew_at, alloc_at, World.size_alloc, if_true]) <;> (repeat' split) <;> first | rfl | (exfalso; omega) | contradiction)
                    · (try simp only [World.size_alloc, drew_size]) <;> omega)
             · have := Ext.size hE1
               first | exact this | (simp; omega)
             intro so2 sc2 w2 hown2 hM2 _
             have hE2 : Ext wa w2 := ext_of_mod (by first | assumption | exact hE1.alloc _) hM2 (fun k e => own_base' hown1 e.symm))
          | fail)
      all_goals go_wp2
      all_goals go_meet
      all_goals exact ⟨so2, sc2, rfl, hown2, hE2⟩
    case rest =>
      obtain ⟨so2, sc2, rfl, hown2, hE2⟩ := hcut
      have HO := Lib.hid hown2
      have HE := Lib.hid hE2
      clear hown2 hE2 hm0 hm1 hm2 hE0
      go_wp2_with (first
        | (at_builtin
           refine wpList_app rfl (.tmp 16) (.tmp 19) 39 rfl wa.heap.size 31 i0 (.agg #[.int .i64 0, .int .i64 0, .string ⟨#[]⟩]) 3 32 Try.underlying39 hi hz0 hz1 hz2 rfl (by decide) (.slice so2 1 sc2) 1 [.int .i64 x.1, .int .i64 x.2.1, .string x.2.2] rfl HO.out none 0 0 ([]) rfl rfl (Src.nil _ _) (by simp) (by omega) (by decide) (Ext.size HE.out) ?_
           intro so4 sc4 w3 hown3 hM3 hb3
           have hE3 : Ext wa w3 := ext_of_mod HE.out hM3 (fun k e => own_base' HO.out e.symm)
           have HO3 := Lib.hid hown3
           have HE3 := Lib.hid hE3
           clear hown3 hM3 hb3 hE3)
        | fail)
      go_ret
      have ho := own_zero HO3.out
      refine ⟨_, rfl, ?_, HA.out.trans HE3.out, fun k hk => ?_⟩
      · unfold Row3
        exact ho
      · have := own_base' HO3.out hk
        omega
  have s1 : (j : Int) ≤ (capa : Int) := by omega
  have s2 : (j : Int) ≤ (L.length : Int) := by omega
  have s7 : (L.length : Int) ≤ (capa : Int) := by omega
  have HH := Lib.hid (h.keep (F := fun _ => False) (by unfold Ext at hEa; exact hEa) (fun _ _ h => h))
  clear h
  obtain ⟨so3, hso3, htail⟩ := tail3 ga capa j HH.out hcap
  have HT := Lib.hid htail
  have HA := Lib.hid hEa
  have hsrc1 := src_take HH.out j
  have hsz : w.heap.size + 1 = wa.heap.size := by rw [← hwa]; simp
  have HW := Lib.hid hwa
  clear htail hEa hbx hwa
  go_enter Try.func45, Try.ntmps45
  go_upto_region 1 with (fail)
  rw [HW.out]
  go_cut [7] from 8 to 15 (fun u wx => ∃ so sc, u = .slice so (j + 1) sc ∧ wx.ownsRow wa.heap.size 31 3 (.slice so (j + 1) sc) (j + 1) (fl (L.take j) ++ [.int .i64 x.1, .int .i64 x.2.1, .string x.2.2]) ∧ Ext wa wx)
  case first =>
    go_region_held3 (fun w' => Ext wa w') (first | assumption | (repeat (first | assumption | apply Ext.drew | apply Ext.alloc)))
      (first
        | (refine step_copy3 (by rfl) _ _ 39 (by rfl) 31 i0 (.agg #[.int .i64 0, .int .i64 0, .string ⟨#[]⟩]) 32 Try.underlying39 hi hz0 hz1 hz2 rfl hsrc1 hl1 ?_ _ (by rfl) ?_ ?_ (by rfl) (fl_ones _) (by omega) (by decide) ?_
           skip
           · (repeat (first | assumption | apply Ext.drew | apply Ext.alloc))
           · first | omega | (simp; done) | (simp; omega)
           · ((try simp only [drew_at, alloc_at, World.size_alloc, if_true]) <;> (repeat' split) <;> first | rfl | (exfalso; omega) | contradiction)
           intro so1 sc1 w1 hown1 hM1 hE1)
        | (refine step_app (by rfl) _ _ 39 (by rfl) wa.heap.size 31 i0 (.agg #[.int .i64 0, .int .i64 0, .string ⟨#[]⟩]) 3 32 Try.underlying39 hi hz0 hz1 hz2 rfl (by decide) _ j (fl (L.take j)) (by rfl) ?_ _ 1 1 [.int .i64 x.1, .int .i64 x.2.1, .string x.2.2] (by rfl) rfl ?_ (by simp [Value.oneCell']) (by omega) (by decide) ?_ ?_
           skip
           · first | exact hown1 | exact hown1.alloc _
           · refine src_one x ?_
             skip
             first
               | exact heap_alloc_new w1 _
               | (refine hM1.keep ?_ ?_
                  · ((try simp only [drew_at, alloc_at, World.size_alloc, if_true]) <;> (repeat' split) <;> first | rfl | (exfalso; omega) | contradiction)
                  · (try simp only [World.size_alloc, drew_size]) <;> omega)
           · have := Ext.size hE1
             first | exact this | (simp; omega)
           intro so2 sc2 w2 hown2 hM2 _
           have hE2 : Ext wa w2 := ext_of_mod (by first | assumption | exact hE1.alloc _) hM2 (fun k e => own_base' hown1 e.symm))
        | fail)
    all_goals go_wp2
    all_goals go_meet
    all_goals exact ⟨so2, sc2, rfl, hown2, hE2⟩
  case rest =>
    obtain ⟨so2, sc2, rfl, hown2, hE2⟩ := hcut
    have HO := Lib.hid hown2
    have HE := Lib.hid hE2
    clear hown2 hE2 hm0 hm1 hm2 hE0
    go_wp2_with (first
      | (at_builtin
         refine wpList_app rfl (.tmp 16) (.tmp 19) 39 rfl wa.heap.size 31 i0 (.agg #[.int .i64 0, .int .i64 0, .string ⟨#[]⟩]) 3 32 Try.underlying39 hi hz0 hz1 hz2 rfl (by decide) (.slice so2 (j + 1) sc2) (j + 1) (fl (L.take j) ++ [.int .i64 x.1, .int .i64 x.2.1, .string x.2.2]) rfl HO.out so3 (L.length - j) (capa - j) (fl (L.drop j)) rfl hl2 (HT.out.ext HE.out) (fl_ones _) (by omega) (by decide) (Ext.size HE.out) ?_
         intro so4 sc4 w3 hown3 hM3 hb3
         have hE3 : Ext wa w3 := ext_of_mod HE.out hM3 (fun k e => own_base' HO.out e.symm)
         have HO3 := Lib.hid hown3
         have HE3 := Lib.hid hE3
         clear hown3 hM3 hb3 hE3)
      | fail)
    go_ret
    have hn : j + 1 + (L.length - j) = (L.take j ++ x :: L.drop j).length := by simp; omega
    have ho := own_zero HO3.out
    refine ⟨_, rfl, ?_, HA.out.trans HE3.out, fun k hk => ?_⟩
    · unfold Row3
      rw [fl_append, fl_cons, ← List.append_assoc, ← hn]
      exact ho
    · have := own_base' HO3.out hk
      omega

end Go.Proofs.Ytjgpoggbakanlaa
