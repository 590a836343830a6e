/- The document's Drop. -/
import Derived.Test.YtpkapfhfnnfomaaRefPut
import Derived.Deep.RegionHeld3
import Derived.Deep.AppendLies
import Derived.Deep.RegionLaw
namespace Go.Proofs.Ytpkapfhfnnfomaa
open Go.RowKit
attribute [local irreducible] Ext

theorem own_fresh {w w' : World} {e : TypeId} (hs : w.heap.size ≤ w'.heap.size) : (w'.alloc (.cells #[] e)).ownsRow w.heap.size e 1 (.slice (some ⟨w'.heap.size, 0, none⟩) 0 0) 0 [] := by
  refine ⟨rfl, .inr ⟨w'.heap.size, 0, #[], rfl, hs, heap_alloc_new w' _, ?_⟩⟩
  simp

theorem Ext.size {a b : World} (h : Ext a b) : a.heap.size ≤ b.heap.size := by unfold Ext at h; exact Mod.size h

/-- 'append(x, y..)' at a step of a region that draws: of however many. -/
theorem step_append_any {P : Program} {w : World} {ops : Array Oper} {o : Oper} {a : Act} {K : Act → World → Prop} {Q : Exit → Act → World → Prop} {E : Prop} (hgd : o.guard = none) (s x : Operand) (t : TypeId)
    (ho : o.op = .call { callee := .builtin .append, args := #[s, x], argTypes := #[t, t] })
    (base : Nat) (e : TypeId) (i : TypeInfo) (z : Value) (bytes : Nat) (ht : P.underlying t = some (.slice e)) (hi : P.info? e = some i) (hz : i.zero = some z)
    (hsize : i.size = 1) (hby : i.bytes = bytes) (hzs : z.cells.size = 1)
    (v : Value) (n : Nat) (xs : List Value) (hs : a.eval s = v) (hown : w.ownsRow base e 1 v n xs)
    (ad : Addr) (m c : Nat) (news : List Value) (hx : a.eval x = .slice (some ad) m c) (hl : news.length = m) (hnews : ∀ j u, news[j]? = some u → w.cell? (ad.add j) = some u) (h1 : ∀ u ∈ news, u.oneCell' = true)
    (h63 : n + m ≤ maxLen) (hbytes : (n + m) * bytes ≤ 140737488355328) (hbase : base ≤ w.heap.size)
    (h : ∀ so sc w', w'.ownsRow base e 1 (.slice so (n + m) sc) (n + m) (xs ++ news) → Mod (fun k => some k = v.ownBlock) w w' → K (a.put o.dst (.slice so (n + m) sc)) w') :
    if Region.wanted o (yielded ops a.tmps) = true then Oper.wp P o a w K Q else E := by
  have hw : Region.wanted o (yielded ops a.tmps) = true := by simp [Region.wanted, hgd]
  rw [if_pos hw]
  obtain ⟨v', w', hr, h2, h3, _⟩ := run_append_own (P := P) w base t o.type e i z 1 bytes ht hi hz hsize hby hzs (by decide) v n xs hown ad m c news (by rw [hl, Nat.mul_one]) hnews h1 h63 hbytes hbase
  obtain ⟨so, sc, rfl⟩ := own_slice h2
  unfold Oper.wp execOp
  simp only [ho, resolve, invoke, builtin, Sem.run_bind, Sem.run_pure, Result.andThen_ok, List.map_toArray, List.map_cons, List.map_nil, hs, hx, hr]
  exact h so sc w' h2 (.of_grown h3)

theorem own_cap2 {w : World} {base n : Nat} {e : TypeId} {v : Value} {xs : List Value} (ho : w.ownsRow base e 1 v n xs) (h0 : 0 < n) : ∃ g cap, v = .slice (some ⟨g, 0, none⟩) n cap ∧ n ≤ cap := by
  rcases ho.2 with ⟨_, h⟩ | ⟨g, cap, cur, rfl, _, hg, h1, _⟩
  · omega
  · exact ⟨g, cap, rfl, h1⟩

theorem step_append_first {P : Program} {w : World} {ops : Array Oper} {o : Oper} {a : Act} {K : Act → World → Prop} {Q : Exit → Act → World → Prop} {E : Prop} (hgd : o.guard = none) (s x : Operand) (t : TypeId)
    (ho : o.op = .call { callee := .builtin .append, args := #[s, x], argTypes := #[t, t] })
    (base : Nat) (e : TypeId) (i : TypeInfo) (z : Value) (bytes : Nat) (ht : P.underlying t = some (.slice e)) (hi : P.info? e = some i) (hz : i.zero = some z)
    (hsize : i.size = 1) (hby : i.bytes = bytes) (hzs : z.cells.size = 1)
    (v : Value) (hs : a.eval s = v) (hown : w.ownsRow base e 1 v 0 [])
    (ad : Addr) (m c : Nat) (news : List Value) (hx : a.eval x = .slice (some ad) m c) (hl : news.length = m) (hnews : ∀ j u, news[j]? = some u → w.cell? (ad.add j) = some u) (h1 : ∀ u ∈ news, u.oneCell' = true)
    (h63 : m ≤ maxLen) (hbytes : m * bytes ≤ 140737488355328) (hbase : base ≤ w.heap.size)
    (h : ∀ so sc w', w'.ownsRow base e 1 (.slice so m sc) m news → Mod (fun k => some k = v.ownBlock) w w' → K (a.put o.dst (.slice so m sc)) w') :
    if Region.wanted o (yielded ops a.tmps) = true then Oper.wp P o a w K Q else E :=
  step_append_any hgd s x t ho base e i z bytes ht hi hz hsize hby hzs v 0 [] hs hown ad m c news hx hl hnews h1 (by rw [Nat.zero_add]; exact h63) (by rw [Nat.zero_add]; exact hbytes) hbase
    (fun so sc w' => by rw [Nat.zero_add, List.nil_append]; exact h so sc w')

theorem ones_int (l : List Int) : ∀ u ∈ l.map (Value.int .i64), u.oneCell' = true := by
  intro u hu
  obtain ⟨x, _, rfl⟩ := List.mem_map.1 hu
  rfl

theorem own_drew {w : World} {base size n : Nat} {e : TypeId} {v : Value} {xs : List Value} (h : w.ownsRow base e size v n xs) : w.drew.ownsRow base e size v n xs := h

theorem ext_of_mod {a b c : World} {F : Nat → Prop} (h : Ext a b) (hM : Mod F b c) (hF : ∀ k, F k → a.heap.size ≤ k) : Ext a c := by
  unfold Ext at h ⊢
  exact h.trans hM (fun i hi hf => by have := hF i hf; omega)

/-- The cells that stand ahead of a place, in whatever world. -/
theorem head_cells {w : World} {g n cap : Nat} {K : List Int} (h : w.ownsRow 0 3 1 (.slice (some ⟨g, 0, none⟩) n cap) K.length (K.map (Value.int .i64))) (j : Nat) :
    ∀ w', Ext w w' → ∀ q u, ((K.take j).map (Value.int .i64))[q]? = some u → w'.cell? ((⟨g, 0, none⟩ : Addr).add q) = some u := by
  intro w' hE q u hu
  have hq : q < ((K.take j).map (Value.int .i64)).length := (List.getElem?_eq_some_iff.1 hu).1
  simp only [List.length_map, List.length_take] at hq
  obtain ⟨g', cap', x0, he, hx, hc, _⟩ := own_cell h (j := q) (by omega)
  injection he with e1
  injection e1 with e1
  injection e1 with e1
  subst e1
  rw [List.getElem?_map, List.getElem?_take, if_pos (by omega)] at hu
  rw [List.getElem?_map, hu] at hx
  obtain rfl := Option.some.inj hx
  have e : (⟨g, 0, none⟩ : Addr).add q = ⟨g, q, none⟩ := by unfold Addr.add; split <;> simp_all
  rw [e]
  exact hE.cell hc

/-- The address behind a place; and the cells there. -/
theorem tail_addr {w : World} {g n cap : Nat} {K : List Int} (h : w.ownsRow 0 3 1 (.slice (some ⟨g, 0, none⟩) n cap) K.length (K.map (Value.int .i64))) {j : Nat} (hc : K.length ≤ cap) :
    ∃ ad : Addr, (if cap = j + 1 then some (⟨g, 0, none⟩ : Addr) else some ⟨g, j + 1, none⟩) = some ad ∧ ∀ w', Ext w w' → ∀ q u, ((K.drop (j + 1)).map (Value.int .i64))[q]? = some u → w'.cell? (ad.add q) = some u := by
  by_cases hcap : cap = j + 1
  · refine ⟨⟨g, 0, none⟩, by rw [if_pos hcap], ?_⟩
    intro w' hE q u hu
    have hq := (List.getElem?_eq_some_iff.1 hu).1
    simp only [List.length_map, List.length_drop] at hq
    omega
  · refine ⟨⟨g, j + 1, none⟩, by rw [if_neg hcap], ?_⟩
    intro w' hE q u hu
    have hq := (List.getElem?_eq_some_iff.1 hu).1
    simp only [List.length_map, List.length_drop] at hq
    obtain ⟨g', cap', x0, he, hx, hcc, _⟩ := own_cell h (j := j + 1 + q) (by omega)
    injection he with e1
    injection e1 with e1
    injection e1 with e1
    subst e1
    rw [List.getElem?_map, List.getElem?_drop] at hu
    rw [List.getElem?_map, hu] at hx
    obtain rfl := Option.some.inj hx
    have e : (⟨g, j + 1, none⟩ : Addr).add q = ⟨g, j + 1 + q, none⟩ := by unfold Addr.add; split <;> simp_all
    rw [e]
    exact hE.cell hcc

theorem erase_parts (K : List Int) (j : Nat) : (K.take j).map (Value.int .i64) ++ (K.drop (j + 1)).map (Value.int .i64) = (K.eraseIdx j).map (Value.int .i64) := by
  rw [← List.map_append, List.eraseIdx_eq_take_drop_succ]

/-- New keys are put in their place. -/
theorem Rows2.new_key {w w2 : World} {b n : Nat} {kv vv : Value} {K V K' : List Int} {so : Option Addr} {sc : Nat} (h : Rows2 w b kv vv K V) (hE : Ext w w2) (hrow : w2.ownsRow w.heap.size 3 1 (.slice so n sc) n (K'.map (Value.int .i64))) (hn : n = K'.length) :
    Rows2 (w2.setCell ⟨b, 0, none⟩ (.slice so n sc)) b (.slice so n sc) vv K' V ∧ Mod (fun k => k = b) w (w2.setCell ⟨b, 0, none⟩ (.slice so n sc)) ∧ ∀ k, (Value.slice so n sc).ownBlock = some k → w.heap.size ≤ k := by
  subst hn
  have hblk := hE.keep h.blk
  have hM2 : Mod (fun k => k = b) w2 (w2.setCell ⟨b, 0, none⟩ (.slice so K'.length sc)) := (Mod.refl (fun k => k = b) w2).setCell (p := ⟨b, 0, none⟩) (.inl rfl) _
  have hlt := heap_lt h.blk
  have hv : w2.ownsRow 0 3 1 vv V.length (V.map (Value.int .i64)) := own_keep (F := fun _ => False) (by unfold Ext at hE; exact hE) h.vals (fun _ _ h => h)
  refine ⟨⟨by simpa using heap_set (o := 0) hblk (.slice so K'.length sc), ?_, own_keep hM2 hv (fun k hk e => own_ne_elem hv hblk (by decide) (by rw [hk, e])), ?_⟩, ?_, fun k hk => own_base hrow hk.symm⟩
  · have h0 : w2.ownsRow 0 3 1 (.slice so K'.length sc) K'.length (K'.map (Value.int .i64)) := by
      refine ⟨hrow.1, ?_⟩
      rcases hrow.2 with h0 | ⟨g, cap, cur, he, hb, r⟩
      · exact .inl h0
      · exact .inr ⟨g, cap, cur, he, Nat.zero_le _, r⟩
    exact own_keep hM2 h0 (fun k hk e => own_ne_elem h0 hblk (by decide) (by rw [hk, e]))
  · intro k hk hvk
    have := own_base hrow hk.symm
    obtain ⟨cur, hc⟩ := own_blk h.vals hvk
    have := heap_lt hc
    omega
  · unfold Ext at hE
    exact (hE.mono (G := fun k => k = b) (fun _ _ h => h.elim)).trans hM2 (fun _ _ h => h)

theorem Rows2.new_val {w w2 : World} {b n : Nat} {kv vv : Value} {K V V' : List Int} {so : Option Addr} {sc : Nat} (h : Rows2 w b kv vv K V) (hE : Ext w w2) (hrow : w2.ownsRow w.heap.size 3 1 (.slice so n sc) n (V'.map (Value.int .i64))) (hn : n = V'.length) :
    Rows2 (w2.setCell ⟨b, 1, none⟩ (.slice so n sc)) b kv (.slice so n sc) K V' ∧ Mod (fun k => k = b) w (w2.setCell ⟨b, 1, none⟩ (.slice so n sc)) ∧ ∀ k, (Value.slice so n sc).ownBlock = some k → w.heap.size ≤ k := by
  subst hn
  have hblk := hE.keep h.blk
  have hM2 : Mod (fun k => k = b) w2 (w2.setCell ⟨b, 1, none⟩ (.slice so V'.length sc)) := (Mod.refl (fun k => k = b) w2).setCell (p := ⟨b, 1, none⟩) (.inl rfl) _
  have hlt := heap_lt h.blk
  have hv : w2.ownsRow 0 3 1 kv K.length (K.map (Value.int .i64)) := own_keep (F := fun _ => False) (by unfold Ext at hE; exact hE) h.keys (fun _ _ h => h)
  refine ⟨⟨by simpa using heap_set (o := 1) hblk (.slice so V'.length sc), own_keep hM2 hv (fun k hk e => own_ne_elem hv hblk (by decide) (by rw [hk, e])), ?_, ?_⟩, ?_, fun k hk => own_base hrow hk.symm⟩
  · have h0 : w2.ownsRow 0 3 1 (.slice so V'.length sc) V'.length (V'.map (Value.int .i64)) := by
      refine ⟨hrow.1, ?_⟩
      rcases hrow.2 with h0 | ⟨g, cap, cur, he, hb, r⟩
      · exact .inl h0
      · exact .inr ⟨g, cap, cur, he, Nat.zero_le _, r⟩
    exact own_keep hM2 h0 (fun k hk e => own_ne_elem h0 hblk (by decide) (by rw [hk, e]))
  · intro k hk hvk
    have := own_base hrow hvk.symm
    obtain ⟨cur, hc⟩ := own_blk h.keys hk
    have := heap_lt hc
    omega
  · unfold Ext at hE
    exact (hE.mono (G := fun k => k = b) (fun _ _ h => h.elim)).trans hM2 (fun _ _ h => h)

set_option maxHeartbeats 4000000 in
theorem dropR {b : Nat} {kv vv : Value} {K V : List Int} (key : Int) (w : World) (h : Rows2 w b kv vv K V) (hL : K.length ≤ 1000000) (hKV : V.length = K.length) {j : Nat} (hj : j < K.length)
    (hf : Calls Try.prog 28 #[.pointer (some ⟨b, 0, none⟩), .int .i64 key] w fun e w' => e = .returned (.tuple #[.int .i64 j, .bool true]) ∧ ∃ n, w' = w.drewN n) :
    Calls Try.prog 16 #[.pointer (some ⟨b, 0, none⟩), .int .i64 key] w fun e w' => e = .returned (.bool true) ∧ PutPost w w' b kv vv (K.eraseIdx j) (V.eraseIdx j) := by
  obtain ⟨gk, kc, rfl, hkc⟩ := own_cap2 h.keys (by omega)
  obtain ⟨gv, vc, rfl, hvc⟩ := own_cap2 h.vals (by omega)
  have HR := Lib.hid h
  have HKV := Lib.hid hKV
  have hjv : j < V.length := by omega
  have hVK : V.length ≤ 1000000 := by omega
  have s0 : (0 : Int) ≤ (j : Int) := by omega
  have s1 : (j : Int) ≤ (kc : Int) := by omega
  have s2 : (j : Int) ≤ (vc : Int) := by omega
  have s3 : IntKind.i64.wrap ((j : Int) + 1) = (j : Int) + 1 := IntWalk.i64_in _ (by omega)
  have s4 : (0 : Int) ≤ (j : Int) + 1 := by omega
  have s5 : (j : Int) + 1 ≤ (K.length : Int) := by omega
  have s6 : (j : Int) + 1 ≤ (V.length : Int) := by omega
  have s7 : (K.length : Int) ≤ (kc : Int) := by omega
  have s8 : (V.length : Int) ≤ (vc : Int) := by omega
  clear h hKV
  obtain ⟨i0, hi, hz0, hz1, hz2⟩ := info_parts info_int
  go_enter Try.func16, Try.ntmps16
  go_wp2_with (go_at_call 28; (with_reducible refine hf.mono ?_); rintro e w' ⟨rfl, nd, rfl⟩)
  have hh := HR.out.drewN nd
  have hE0 : Ext w (w.drewN nd) := (Ext.refl w).drewN nd
  generalize w.drewN nd = wa at hh hE0 ⊢
  have HH := Lib.hid hh
  have HE := Lib.hid hE0
  have c0 : ∀ w', Ext wa w' → w'.cell? ⟨b, 0, none⟩ = some (.slice (some ⟨gk, 0, none⟩) K.length kc) := by
    intro w' hE
    have := cell_of_heap (hE.keep HH.out.blk) 0
    simpa using this
  have f0 : ∀ w', Ext wa w' → w'.frozen? ⟨b, 0, none⟩ = false := fun w' hE => free_of_heap (hE.keep HH.out.blk) 0
  have hn1 := head_cells HH.out.keys j
  obtain ⟨ad2, had2, hn2⟩ := tail_addr HH.out.keys (j := j) (by omega)
  have c1 := c0 wa (Ext.refl wa)
  have c2 := c0 (wa.alloc (.cells #[] 3)) ((Ext.refl wa).alloc _)
  clear hh hE0 hf
  go_upto_region 4 with (fail)
  go_cut [4] from 15 (fun r wx => r = .bool false ∧ ∃ so sc w2, Ext wa w2 ∧ w2.ownsRow wa.heap.size 3 1 (.slice so (j + (K.length - (j + 1))) sc) (j + (K.length - (j + 1))) ((K.eraseIdx j).map (Value.int .i64)) ∧ wx = w2.setCell ⟨b, 0, none⟩ (.slice so (j + (K.length - (j + 1))) sc))
  case first =>
    go_region_law (first
      | (refine step_append_first (by rfl) _ _ 33 (by rfl) wa.heap.size 3 i0 (.int .i64 0) 8 Try.underlying33 hi hz0 hz1 hz2 rfl _ (by rfl) (own_drew (own_fresh (w := wa) (w' := wa) (Nat.le_refl _))) ⟨gk, 0, none⟩ j kc ((K.take j).map (Value.int .i64)) (by rfl) (by simp; omega) (hn1 _ ((Ext.refl wa).alloc _).drew) (ones_int _) (by simp only [maxLen]; omega) (by omega) (by simp) ?_; intro so1 sc1 w1 hown1 hM1; have hE1 : Ext wa w1 := ext_of_mod ((Ext.refl wa).alloc _).drew hM1 (fun k e => Nat.le_of_eq (Option.some.inj e).symm); have cw1 := c0 w1 hE1)
      | (refine step_append_any (by rfl) _ _ 33 (by rfl) wa.heap.size 3 i0 (.int .i64 0) 8 Try.underlying33 hi hz0 hz1 hz2 rfl _ j _ (by rfl) hown1 ad2 (K.length - (j + 1)) (kc - (j + 1)) ((K.drop (j + 1)).map (Value.int .i64)) (by rfl) (by simp) (hn2 _ hE1) (ones_int _) (by simp only [maxLen]; omega) (by omega) (Ext.size hE1) ?_; intro so2 sc2 w2 hown2 hM2; have hE2 : Ext wa w2 := ext_of_mod hE1 hM2 (fun k e => own_base hown1 e); have cw2 := c0 w2 hE2; have fw2 := f0 w2 hE2))
    all_goals go_wp2
    all_goals go_meet
    all_goals exact ⟨rfl, so2, sc2, w2, hE2, by rw [← erase_parts]; exact hown2, rfl⟩
  case rest =>
    obtain ⟨rfl, so, sc, w2, hE2, hown2, rfl⟩ := hcut
    have hl1 : j + (K.length - (j + 1)) = (K.eraseIdx j).length := by rw [List.length_eraseIdx]; split <;> omega
    obtain ⟨h6, m6, o6⟩ := HH.out.new_key hE2 hown2 hl1
    generalize w2.setCell ⟨b, 0, none⟩ (.slice so (j + (K.length - (j + 1))) sc) = wb at h6 m6 ⊢
    have H6 := Lib.hid h6
    have M6 := Lib.hid m6
    have O6 := Lib.hid o6
    have d0 : ∀ w', Ext wb w' → w'.cell? ⟨b, 1, none⟩ = some (.slice (some ⟨gv, 0, none⟩) V.length vc) := by
      intro w' hE
      have := cell_of_heap (hE.keep H6.out.blk) 1
      simpa using this
    have g0 : ∀ w', Ext wb w' → w'.frozen? ⟨b, 1, none⟩ = false := fun w' hE => free_of_heap (hE.keep H6.out.blk) 1
    have hn3 := head_cells H6.out.vals j
    obtain ⟨ad4, had4, hn4⟩ := tail_addr H6.out.vals (j := j) (by omega)
    have d1 := d0 wb (Ext.refl wb)
    have d2 := d0 (wb.alloc (.cells #[] 3)) ((Ext.refl wb).alloc _)
    clear h6 m6 o6 hE2 hown2 c0 f0 c1 c2 hn1 hn2 had2 hl1 w2
    go_upto_region 5 with (fail)
    go_cut [4] from 34 (fun r wx => r = .bool false ∧ ∃ so sc w2, Ext wb w2 ∧ w2.ownsRow wb.heap.size 3 1 (.slice so (j + (V.length - (j + 1))) sc) (j + (V.length - (j + 1))) ((V.eraseIdx j).map (Value.int .i64)) ∧ wx = w2.setCell ⟨b, 1, none⟩ (.slice so (j + (V.length - (j + 1))) sc))
    case first =>
      go_region_law (first
        | (refine step_append_first (by rfl) _ _ 33 (by rfl) wb.heap.size 3 i0 (.int .i64 0) 8 Try.underlying33 hi hz0 hz1 hz2 rfl _ (by rfl) (own_drew (own_fresh (w := wb) (w' := wb) (Nat.le_refl _))) ⟨gv, 0, none⟩ j vc ((V.take j).map (Value.int .i64)) (by rfl) (by simp; omega) (hn3 _ ((Ext.refl wb).alloc _).drew) (ones_int _) (by simp only [maxLen]; omega) (by omega) (by simp) ?_; intro so1 sc1 w1 hown1 hM1; have hE1 : Ext wb w1 := ext_of_mod ((Ext.refl wb).alloc _).drew hM1 (fun k e => Nat.le_of_eq (Option.some.inj e).symm); have cw1 := d0 w1 hE1)
        | (refine step_append_any (by rfl) _ _ 33 (by rfl) wb.heap.size 3 i0 (.int .i64 0) 8 Try.underlying33 hi hz0 hz1 hz2 rfl _ j _ (by rfl) hown1 ad4 (V.length - (j + 1)) (vc - (j + 1)) ((V.drop (j + 1)).map (Value.int .i64)) (by rfl) (by simp) (hn4 _ hE1) (ones_int _) (by simp only [maxLen]; omega) (by omega) (Ext.size hE1) ?_; intro so2 sc2 w2 hown2 hM2; have hE2 : Ext wb w2 := ext_of_mod hE1 hM2 (fun k e => own_base hown1 e); have cw2 := d0 w2 hE2; have fw2 := g0 w2 hE2))
      all_goals go_wp2
      all_goals go_meet
      all_goals exact ⟨rfl, so2, sc2, w2, hE2, by rw [← erase_parts]; exact hown2, rfl⟩
    case rest =>
      obtain ⟨rfl, so', sc', w2, hE2, hown2, rfl⟩ := hcut
      have hl1 : j + (V.length - (j + 1)) = (V.eraseIdx j).length := by rw [List.length_eraseIdx]; split <;> omega
      obtain ⟨h7, m7, o7⟩ := H6.out.new_val hE2 hown2 hl1
      have H7 := Lib.hid h7
      have M7 := Lib.hid m7
      have O7 := Lib.hid o7
      clear h7 m7 o7 hE2 hown2 d0 g0 d1 d2 hn3 hn4 had4 hl1
      go_wp2_with fail
      go_ret
      refine ⟨rfl, _, _, H7.out, ?_, ?_⟩
      · have hE := HE.out
        unfold Ext at hE
        refine ((hE.mono (fun _ _ h => h.elim)).trans M6.out (fun k _ e => .inl e)).trans M7.out (fun k _ e => .inl e)
      · have z1 := Ext.size HE.out
        have z2 := M6.out.size
        rintro k (h | h)
        · have := O6.out k h
          exact .inr (.inr (by omega))
        · have := O7.out k h
          exact .inr (.inr (by omega))

theorem map_erase {α β : Type} (f : α → β) (l : List α) (i : Nat) : (l.eraseIdx i).map f = (l.map f).eraseIdx i := by
  rw [List.eraseIdx_eq_take_drop_succ, List.eraseIdx_eq_take_drop_succ, List.map_append, List.map_take, List.map_drop]

theorem del_place {key : Int} {L : List (Int × Int)} {a : Int × Int} (ha : L[place key L]? = some a) (hk : a.1 = key) : del key L = L.eraseIdx (place key L) := by
  induction L with
  | nil => simp at ha
  | cons c L ih =>
    simp only [place, del] at ha ⊢
    split
    · rename_i hc
      rw [if_pos hc] at ha
      rw [ih (by simpa using ha)]
      rfl
    · rename_i hc
      rw [if_neg hc] at ha
      obtain rfl : c = a := by simpa using ha
      rw [if_pos hk]
      rfl

theorem del_none {key : Int} {L : List (Int × Int)} (hr : Rising L) (h : look key L = none) : del key L = L := by
  refine rising_eq (rising_del hr) hr fun y => ?_
  rw [mem_del hr]
  constructor
  · exact fun h => h.1
  · refine fun hy => ⟨hy, fun e => ?_⟩
    have := look_of_mem hr hy
    rw [e, h] at this
    cases this

set_option maxHeartbeats 2000000 in
theorem dropL_any {b : Nat} {kv vv : Value} {L : List (Int × Int)} (key : Int) (w : World) (h : RefAt w b kv vv L) (hL : L.length ≤ 1000000) (hr : Rising L) :
    Calls Try.prog 16 #[.pointer (some ⟨b, 0, none⟩), .int .i64 key] w fun e w' => e = .returned (.bool (lookR L key).2) ∧ RefPost w w' b kv vv (del key L) := by
  have hf := find_any key w h (by omega)
  rcases there_look (key := key) hr with ⟨ht, a, ha, hk, hlk⟩ | ⟨ht, hlk⟩
  · have hR : lookR L key = (a.2, true) := by unfold lookR; rw [hlk]
    rw [hR, del_place ha hk]
    rw [ht] at hf
    refine (dropR key w h.rows (by simpa using hL) (by simp) (j := place key L) (by simpa using (List.getElem?_eq_some_iff.1 ha).1) hf).mono ?_
    rintro e w' ⟨rfl, kv', vv', h1, h2, h3⟩
    refine ⟨rfl, kv', vv', RefAt.of_rows ?_, h2, h3⟩
    rw [map_erase, map_erase]
    exact h1
  · have hR : lookR L key = (0, false) := by unfold lookR; rw [hlk]
    rw [hR, del_none hr hlk]
    rw [ht] at hf
    have HR := Lib.hid h
    clear h hr ht hlk hR
    go_enter Try.func16, Try.ntmps16
    go_wp2_with (go_at_call 28; (with_reducible refine hf.mono ?_); rintro e w' ⟨rfl, n, rfl⟩)
    go_ret
    refine ⟨rfl, kv, vv, HR.out.drewN n, (Mod.refl _ w).drewN n, fun k hk => ?_⟩
    rcases hk with hk | hk
    · exact .inl hk.symm
    · exact .inr (.inl hk.symm)

end Go.Proofs.Ytpkapfhfnnfomaa
