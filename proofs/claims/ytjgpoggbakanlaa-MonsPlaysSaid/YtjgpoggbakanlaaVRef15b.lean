/- The document's halves of monitors: without. -/
import Derived.Test.YtjgpoggbakanlaaVRef15
import Derived.Deep.Cut
import Derived.BigRegion
namespace Go.Proofs.Ytjgpoggbakanlaa
open Go.RowKit
attribute [local irreducible] Ext

theorem ext_of_mod {a b c : World} {F : Nat → Prop} (h : Ext a b) (hM : Mod F b c) (hF : ∀ k, F k → a.heap.size ≤ k) : Ext a c := by
  unfold Ext at h ⊢
  exact h.trans hM (fun i hi hf => by have := hF i hf; omega)

theorem step_app_first {P : Program} {w : World} {ops : Array Oper} {o : Oper} {a : Act} {K : Act → World → Prop} {Q : Exit → Act → World → Prop} {E : Prop} (hgd : o.guard = none) (s x : Operand) (t : TypeId)
    (ho : o.op = .call { callee := .builtin .append, args := #[s, x], argTypes := #[t, t] })
    (base : Nat) (e : TypeId) (i : TypeInfo) (z : Value) (size bytes : Nat) (ht : P.underlying t = some (.slice e)) (hi : P.info? e = some i) (hz : i.zero = some z)
    (hsize : i.size = size) (hby : i.bytes = bytes) (hzs : z.cells.size = size) (hsz : 0 < size)
    (v : Value) (hs : a.eval s = v) (hown : w.ownsRow base e size v 0 [])
    (so : Option Addr) (m c : Nat) (news : List Value) (hx : a.eval x = .slice so m c) (hl : news.length = m * size) (hsrc : Src w so news) (h1 : ∀ u ∈ news, u.oneCell' = true)
    (h63 : m ≤ 1000000000) (hbytes : bytes ≤ 1000) (hbase : base ≤ w.heap.size)
    (h : ∀ so' sc w', w'.ownsRow base e size (.slice so' m sc) m news → Mod (fun k => some k = v.ownBlock) w w' → K (a.put o.dst (.slice so' m sc)) w') :
    if Region.wanted o (yielded ops a.tmps) = true then Oper.wp P o a w K Q else E :=
  step_app hgd s x t ho base e i z size bytes ht hi hz hsize hby hzs hsz v 0 [] hs hown so m c news hx hl hsrc h1 (by omega) hbytes hbase
    (fun so' sc w' => by rw [Nat.zero_add, List.nil_append]; exact fun h2 h3 _ => h so' sc w' h2 h3)

/-- The address behind a place. -/
theorem tail3 (g cap i : Nat) {L : List (Int × Int × ByteArray)} {w : World} (h : Row3 w (.slice (some ⟨g, 0, none⟩) L.length cap) L) (hc : L.length ≤ cap) : ∃ so, (if cap = i then some (⟨g, 0, none⟩ : Addr) else some ⟨g, i * 3, none⟩) = so ∧ Src w so (fl (L.drop i)) := by
  by_cases hcap : cap = i
  · refine ⟨some ⟨g, 0, none⟩, if_pos hcap, src_own h i _ (.inl ?_)⟩
    rw [List.drop_eq_nil_of_le (by omega)]
    rfl
  · exact ⟨some ⟨g, i * 3, none⟩, if_neg hcap, src_own h i _ (.inr rfl)⟩

set_option maxRecDepth 100000 in
set_option maxHeartbeats 4000000 in
theorem without15 {v : Value} {L : List (Int × Int × ByteArray)} (w : World) (h : Row3 w v L) (hL : L.length ≤ 1000000) {j : Nat} (hj : j < L.length) :
    Calls Try.prog 46 #[v, .int .i64 j] w fun e w' => ∃ v', e = .returned v' ∧ Row3 w' v' (L.eraseIdx j) ∧ Ext w w' ∧ ∀ k, v'.ownBlock = some k → w.heap.size ≤ k := by
  rcases h.slice with ⟨_, rfl⟩ | ⟨ga, capa, rfl, hcap⟩
  · simp at hj
  have s0 : (0 : Int) ≤ (j : Int) := by omega
  have s1 : (j : Int) ≤ (capa : Int) := by omega
  have s3 : IntKind.i64.wrap ((j : Int) + 1) = (j : Int) + 1 := IntWalk.i64_in _ (by omega)
  have s4 : (0 : Int) ≤ (j : Int) + 1 := by omega
  have s5 : (j : Int) + 1 ≤ (L.length : Int) := by omega
  have s7 : (L.length : Int) ≤ (capa : Int) := by omega
  have hl1 : (fl (L.take j)).length = j * 3 := by rw [fl_length, List.length_take, Nat.min_eq_left (by omega)]
  have hl2 : (fl (L.drop (j + 1))).length = (L.length - (j + 1)) * 3 := by rw [fl_length, List.length_drop]
  have HH := Lib.hid h
  clear h
  obtain ⟨i0, hi, hz0, hz1, hz2⟩ := info_parts info3
  obtain ⟨so3, hso3, htail⟩ := tail3 ga capa (j + 1) HH.out hcap
  have HT := Lib.hid htail
  clear htail
  go_enter Try.func46, Try.ntmps46
  go_wp2_with fail
  go_region_law (first
    | (refine step_app_first (by rfl) _ _ 39 (by rfl) w.heap.size 31 i0 (.agg #[.int .i64 0, .int .i64 0, .string ⟨#[]⟩]) 3 32 Try.underlying39 hi hz0 hz1 hz2 rfl (by decide) _ (by rfl) (fresh_at (X := (w.alloc (.cells #[] 31)).drew) (Nat.le_refl _) (heap_alloc_new w _)) (some ⟨ga, 0, none⟩) j capa (fl (L.take j)) (by rfl) hl1 ((src_take HH.out j).ext ((Ext.refl w).alloc _).drew) (fl_ones _) (by omega) (by decide) (by simp) ?_; intro so1 sc1 w1 hown1 hM1; have hE1 : Ext w w1 := ext_of_mod ((Ext.refl w).alloc _).drew hM1 (fun k e => Nat.le_of_eq (Option.some.inj e).symm))
    | (refine step_app (by rfl) _ _ 39 (by rfl) w.heap.size 31 i0 (.agg #[.int .i64 0, .int .i64 0, .string ⟨#[]⟩]) 3 32 Try.underlying39 hi hz0 hz1 hz2 rfl (by decide) _ j _ (by rfl) hown1 so3 (L.length - (j + 1)) (capa - (j + 1)) (fl (L.drop (j + 1))) (by rfl) hl2 (HT.out.ext hE1) (fl_ones _) (by omega) (by decide) (Ext.size hE1) ?_; intro so2 sc2 w2 hown2 hM2 _; have hE2 : Ext w w2 := ext_of_mod hE1 hM2 (fun k e => own_base' hown1 e.symm)))
  all_goals go_wp2
  all_goals go_ret
  all_goals
    have hn : j + (L.length - (j + 1)) = (L.eraseIdx j).length := by rw [List.length_eraseIdx]; split <;> omega
    refine ⟨_, rfl, ?_, hE2, fun k hk => own_base' hown2 hk⟩
    rw [List.eraseIdx_eq_take_drop_succ] at hn ⊢
    unfold Row3
    rw [← hn, fl_append]
    exact own_zero hown2

end Go.Proofs.Ytjgpoggbakanlaa
