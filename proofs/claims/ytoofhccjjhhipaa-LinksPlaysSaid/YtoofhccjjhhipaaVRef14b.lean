/- The document's half-links: drop, Get, and what is told by them. -/
import Derived.Test.YtoofhccjjhhipaaVRef14
namespace Go.Proofs.Ytoofhccjjhhipaa
open Go.RowKit
attribute [local irreducible] Ext

theorem step_app_first {P : Program} {w : World} {ops : Array Oper} {o : Oper} {a : Act} {K : Act → World → Prop} {Q : Exit → Act → World → Prop} {E : Prop} (hgd : o.guard = none) (s x : Operand) (t : TypeId)
    (ho : o.op = .call { callee := .builtin .append, args := #[s, x], argTypes := #[t, t] })
    (base : Nat) (e : TypeId) (i : TypeInfo) (z : Value) (size bytes : Nat) (ht : P.underlying t = some (.slice e)) (hi : P.info? e = some i) (hz : i.zero = some z)
    (hsize : i.size = size) (hby : i.bytes = bytes) (hzs : z.cells.size = size) (hsz : 0 < size)
    (v : Value) (hs : a.eval s = v) (hown : w.ownsRow base e size v 0 [])
    (so : Option Addr) (m c : Nat) (news : List Value) (hx : a.eval x = .slice so m c) (hl : news.length = m * size) (hsrc : Src w so news) (h1 : ∀ u ∈ news, u.oneCell' = true)
    (h63 : m ≤ 1000000000) (hbytes : bytes ≤ 1000) (hbase : base ≤ w.heap.size)
    (h : ∀ so' sc w', w'.ownsRow base e size (.slice so' m sc) m news → Mod (fun k => some k = v.ownBlock) w w' → K (a.put o.dst (.slice so' m sc)) w') :
    if Region.wanted o (yielded ops a.tmps) = true then Oper.wp P o a w K Q else E :=
  step_app hgd s x t ho base e i z size bytes ht hi hz hsize hby hzs hsz v 0 [] hs hown so m c news hx hl hsrc h1 (by omega) hbytes hbase
    (fun so' sc w' => by rw [Nat.zero_add, List.nil_append]; exact fun h2 h3 _ => h so' sc w' h2 h3)

/-- A new row is put in its place. -/
theorem R14.renew {w w2 : World} {b n : Nat} {v : Value} {L L' : List (Int × Int × Int)} {last : Int} {so : Option Addr} {sc : Nat} (h : R14 w b v L last) (hE : Ext w w2) (hrow : w2.ownsRow w.heap.size 36 3 (.slice so n sc) n (fl L')) (hn : n = L'.length) :
    R14 (w2.setCell ⟨b, 0, none⟩ (.slice so n sc)) b (.slice so n sc) L' last ∧ Mod (fun k => k = b) w (w2.setCell ⟨b, 0, none⟩ (.slice so n sc)) ∧ ∀ k, (Value.slice so n sc).ownBlock = some k → w.heap.size ≤ k := by
  subst hn
  have hblk := hE.keep h.blk
  have hlt := heap_lt h.blk
  have hM2 : Mod (fun k => k = b) w2 (w2.setCell ⟨b, 0, none⟩ (.slice so L'.length sc)) := (Mod.refl (fun k => k = b) w2).setCell (p := ⟨b, 0, none⟩) (.inl rfl) _
  refine ⟨⟨by simpa using heap_set (o := 0) hblk (.slice so L'.length sc), ?_⟩, (mod_of_ext hE).trans hM2 (fun _ _ h => h), fun k hk => own_base' hrow hk⟩
  exact Row3.keep (own_zero hrow) hM2 (fun k hk e => by have := own_base' hrow hk; omega)

set_option maxRecDepth 100000 in
set_option maxHeartbeats 4000000 in
theorem drop14 {b : Nat} {v : Value} {L : List (Int × Int × Int)} {last : Int} (w : World) (h : R14 w b v L last) (hL : L.length ≤ 1000000) {j : Nat} (hj : j < L.length) :
    Calls Try.prog 50 #[.pointer (some ⟨b, 0, none⟩), .int .i64 j] w fun e w' => (∃ u, e = .returned u) ∧ Post14 w w' b v last (KL (L.eraseIdx j)) := by
  rcases h.row.slice with ⟨_, rfl⟩ | ⟨ga, capa, rfl, hcap⟩
  · simp at hj
  have s0 : (0 : Int) ≤ (j : Int) := by omega
  have s1 : (j : Int) ≤ (capa : Int) := by omega
  have s3 : IntKind.i64.wrap ((j : Int) + 1) = (j : Int) + 1 := IntWalk.i64_in _ (by omega)
  have s4 : (0 : Int) ≤ (j : Int) + 1 := by omega
  have s5 : (j : Int) + 1 ≤ (L.length : Int) := by omega
  have s7 : (L.length : Int) ≤ (capa : Int) := by omega
  have hl1 : (fl (L.take j)).length = j * 3 := by rw [fl_length, List.length_take, Nat.min_eq_left (by omega)]
  have hl2 : (fl (L.drop (j + 1))).length = (L.length - (j + 1)) * 3 := by rw [fl_length, List.length_drop]
  have HH := Lib.hid h
  clear h
  obtain ⟨i0, hi, hz0, hz1, hz2⟩ := info_parts info3
  obtain ⟨so3, hso3, htail⟩ := tail3 ga capa (j + 1) HH.out.row hcap
  have HT := Lib.hid htail
  clear htail
  have c0 : ∀ w', Ext w w' → w'.cell? ⟨b, 0, none⟩ = some (.slice (some ⟨ga, 0, none⟩) L.length capa) := fun w' hE => (HH.out.ext hE).cells.1
  have f0 : ∀ w', Ext w w' → w'.frozen? ⟨b, 0, none⟩ = false := fun w' hE => (HH.out.ext hE).cells.2.2.1
  have c1 := c0 w (Ext.refl w)
  have c2 := c0 (w.alloc (.cells #[] 36)) ((Ext.refl w).alloc _)
  go_enter Try.func50, Try.ntmps50
  go_region_law (first
    | (refine step_app_first (by rfl) _ _ 27 (by rfl) w.heap.size 36 i0 (.agg #[.int .i64 0, .int .i64 0, .int .i64 0]) 3 24 Try.underlying27 hi hz0 hz1 hz2 rfl (by decide) _ (by rfl) (fresh_at (X := (w.alloc (.cells #[] 36)).drew) (Nat.le_refl _) (heap_alloc_new w _)) (some ⟨ga, 0, none⟩) j capa (fl (L.take j)) (by rfl) hl1 ((src_take HH.out.row j).ext ((Ext.refl w).alloc _).drew) (fl_ones _) (by omega) (by decide) (by simp) ?_; intro so1 sc1 w1 hown1 hM1; have hE1 : Ext w w1 := ext_of_mod ((Ext.refl w).alloc _).drew hM1 (fun k e => Nat.le_of_eq (Option.some.inj e).symm); have cw1 := c0 w1 hE1)
    | (refine step_app (by rfl) _ _ 27 (by rfl) w.heap.size 36 i0 (.agg #[.int .i64 0, .int .i64 0, .int .i64 0]) 3 24 Try.underlying27 hi hz0 hz1 hz2 rfl (by decide) _ j _ (by rfl) hown1 so3 (L.length - (j + 1)) (capa - (j + 1)) (fl (L.drop (j + 1))) (by rfl) hl2 (HT.out.ext hE1) (fl_ones _) (by omega) (by decide) (Ext.size hE1) ?_; intro so2 sc2 w2 hown2 hM2 _; have hE2 : Ext w w2 := ext_of_mod hE1 hM2 (fun k e => own_base' hown1 e.symm); have cw2 := c0 w2 hE2; have fw2 := f0 w2 hE2))
  all_goals go_wp2
  all_goals go_end0
  all_goals
    have hn : j + (L.length - (j + 1)) = (L.eraseIdx j).length := by rw [List.length_eraseIdx]; split <;> omega
    have hown3 : w2.ownsRow w.heap.size 36 3 (.slice so2 (j + (L.length - (j + 1))) sc2) (j + (L.length - (j + 1))) (fl (L.eraseIdx j)) := by
      rw [List.eraseIdx_eq_take_drop_succ, fl_append]
      exact hown2
    obtain ⟨h6, m6, o6⟩ := HH.out.renew hE2 hown3 hn
    exact ⟨⟨_, rfl⟩, _, _, h6, rfl, m6.mono (fun k _ e => .inl e), fun k hk => .inr (o6 k hk)⟩

end Go.Proofs.Ytoofhccjjhhipaa
