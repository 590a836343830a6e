/- One element is taken out of a row that is one's own: slices.Delete. -/
import Derived.Test.YteiognkbkpidiaaTmRCopy
import Derived.Laws.CopyRow
namespace Go.Proofs.Yteiognkbkpidiaa
open Go.RowKit
attribute [local irreducible] Ext

theorem mod_setRow (w : World) (g : Nat) (a : Array Value) : Mod (fun k => k = g) w (w.setRow g a) := by
  refine ⟨rfl, rfl, rfl, ?_, fun k hk hf => ?_⟩
  · unfold World.setRow
    simp
  · unfold World.setRow
    have : g ≠ k := fun e => hf e.symm
    simp [Array.getElem?_modify, this]

theorem own_of {w : World} {g cap n size : Nat} {e : TypeId} {cur : Array Value} {xs : List Value} (hg : w.heap[g]? = some (.cells cur e (0, 0))) (hn : n ≤ cap) (hc : cap ≤ maxLen) (hs : cur.size = cap * size) (hx : cur.toList.take (n * size) = xs) :
    w.ownsRow 0 e size (.slice (some ⟨g, 0, none⟩) n cap) n xs := by
  refine ⟨?_, .inr ⟨g, cap, cur, rfl, Nat.zero_le _, hg, hn, hc, hs, hx⟩⟩
  rw [← hx, List.length_take, Array.length_toList, hs]
  exact Nat.min_eq_left (Nat.mul_le_mul_right _ hn)

/-- 'append' where there is room, in the row's own block. -/
theorem run_app_room {P : Program} (w : World) (t ty e : TypeId) (i : TypeInfo) (size : Nat) (ht : P.underlying t = some (.slice e)) (hi : P.info? e = some i) (hsize : i.size = size)
    (g n cap : Nat) (cur : Array Value) (hg : w.heap[g]? = some (.cells cur e (0, 0))) (hn : n ≤ cap) (hc : cap ≤ maxLen) (hs : cur.size = cap * size)
    (so : Option Addr) (m c : Nat) (news : List Value) (hl : news.length = m * size) (hsz : 0 < size) (hsrc : Src w so news) (h1 : ∀ u ∈ news, u.oneCell' = true) (hroom : n + m ≤ cap) :
    ∃ cur' w', (Builtin.append_ #[t, t] ty #[.slice (some ⟨g, 0, none⟩) n cap, .slice so m c]).run P w = .ok (.slice (some ⟨g, 0, none⟩) (n + m) cap) w' ∧ w'.heap[g]? = some (.cells cur' e (0, 0)) ∧ cur'.size = cur.size ∧
      cur'.toList.take ((n + m) * size) = cur.toList.take (n * size) ++ news ∧ Mod (fun k => k = g) w w' := by
  subst hsize
  have hns : n * i.size ≤ cap * i.size := Nat.mul_le_mul_right _ hn
  have hms : (n + m) * i.size ≤ cap * i.size := Nat.mul_le_mul_right _ hroom
  cases so with
  | none =>
    have hnil : news = [] := by
      cases news with
      | nil => rfl
      | cons u us =>
        obtain ⟨ad, e, _⟩ := hsrc 0 u rfl
        cases e
    subst hnil
    have hm : m = 0 := by
      have h0 : m * i.size = 0 := by simpa using hl.symm
      rcases Nat.mul_eq_zero.1 h0 with h | h
      · exact h
      · omega
    subst hm
    refine ⟨cur, w, ?_, hg, rfl, by simp, Mod.refl _ w⟩
    exact run_append_none w 0 t ty e i i.size ht hi _ n (cur.toList.take (n * i.size)) (own_of hg hn hc hs rfl) c
  | some ad =>
    have hnews : ∀ j u, news[j]? = some u → w.cell? (ad.add j) = some u := fun j u hu => by
      obtain ⟨ad', e, hc⟩ := hsrc j u hu
      injection e with e
      subst e
      exact hc
    have hfit : n * i.size + news.length ≤ cur.size := by rw [hl, hs, ← Nat.add_mul]; exact hms
    refine ⟨_, _, run_append_room (P := P) w t ty e i ht hi g n cap cur hg ad m c news hl hnews h1 hroom hfit, setRow_heap w g cur _ e (0, 0) hg, ?_, ?_, mod_setRow _ _ _⟩
    · simp
      omega
    · have hlen : (cur.toList.take (n * i.size) ++ news).length = (n + m) * i.size := by
        rw [List.length_append, List.length_take, Array.length_toList, Nat.min_eq_left (by omega), hl, Nat.add_mul]
      rw [List.toList_toArray, List.take_append_of_le_length (by omega), List.take_of_length_le (by omega)]

theorem step_app_room {P : Program} {w : World} {ops : Array Oper} {o : Oper} {a : Act} {K : Act → World → Prop} {Q : Exit → Act → World → Prop} {E : Prop} (hgd : o.guard = none) (s x : Operand) (t : TypeId)
    (ho : o.op = .call { callee := .builtin .append, args := #[s, x], argTypes := #[t, t] })
    (e : TypeId) (i : TypeInfo) (size : Nat) (ht : P.underlying t = some (.slice e)) (hi : P.info? e = some i) (hsize : i.size = size)
    (g n cap : Nat) (cur : Array Value) (hs : a.eval s = .slice (some ⟨g, 0, none⟩) n cap) (hg : w.heap[g]? = some (.cells cur e (0, 0))) (hn : n ≤ cap) (hc : cap ≤ maxLen) (hcs : cur.size = cap * size)
    (so : Option Addr) (m c : Nat) (news : List Value) (hx : a.eval x = .slice so m c) (hl : news.length = m * size) (hsz : 0 < size) (hsrc : Src w so news) (h1 : ∀ u ∈ news, u.oneCell' = true) (hroom : n + m ≤ cap)
    (h : ∀ cur' w', w'.heap[g]? = some (.cells cur' e (0, 0)) → cur'.size = cur.size → cur'.toList.take ((n + m) * size) = cur.toList.take (n * size) ++ news → Mod (fun k => k = g) w w' → K (a.put o.dst (.slice (some ⟨g, 0, none⟩) (n + m) cap)) w') :
    if Region.wanted o (yielded ops a.tmps) = true then Oper.wp P o a w K Q else E := by
  have hw : Region.wanted o (yielded ops a.tmps) = true := by simp [Region.wanted, hgd]
  rw [if_pos hw]
  obtain ⟨cur', w', hr, h2, h3, h4, h5⟩ := run_app_room (P := P) w t o.type e i size ht hi hsize g n cap cur hg hn hc hcs so m c news hl hsz hsrc h1 hroom
  unfold Oper.wp execOp
  simp only [ho, resolve, invoke, builtin, Sem.run_bind, Sem.run_pure, Result.andThen_ok, List.map_toArray, List.map_cons, List.map_nil, hs, hx, hr]
  exact h cur' w' h2 h3 h4 h5

/-- The zero term's cells. -/
def zeroEl : List Value := [.int .i64 0, .int .i64 0, .float .f64 0, .string ⟨#[]⟩, .slice none 0 0]

/-- 'clear' of a row's last element. -/
theorem run_clear_one (w : World) (ty : TypeId) (g o c : Nat) (cur : Array Value) (hg : w.heap[g]? = some (.cells cur 27 (0, 0))) (hfit : o + 5 ≤ cur.size) :
    ∃ cur' w', (Builtin.clear_ #[22] ty #[.slice (some ⟨g, o, none⟩) 1 c]).run Try.prog w = .ok (.tuple #[]) w' ∧ w'.heap[g]? = some (.cells cur' 27 (0, 0)) ∧ cur'.size = cur.size ∧ cur'.toList.take o = cur.toList.take o ∧ Mod (fun k => k = g) w w' := by
  obtain ⟨i0, hi, hz0, hz1, hz2⟩ := info_parts info5
  have hst := run_storeCells_at Try.prog g o 27 zeroEl 0 cur w hg (by simp [zeroEl]; omega) (by intro v hv; simp [zeroEl] at hv; rcases hv with rfl | rfl | rfl | rfl | rfl <;> rfl)
  simp only [Nat.add_zero] at hst
  refine ⟨(cur.toList.take o ++ zeroEl ++ cur.toList.drop (o + zeroEl.length)).toArray, _, ?_, setRow_heap w g cur _ 27 (0, 0) hg, ?_, ?_, mod_setRow _ _ _⟩
  · have hzz : (Builtin.zeroCells #[.int .i64 0, .int .i64 0, .float .f64 0, .string ⟨#[]⟩, .slice none 0 0] 1).toList = zeroEl := by kernel_rfl
    simp [Builtin.clear_, run_underlying Try.underlying22, zeroValue, typeInfo, hi, hz0, Value.cells, hzz, hst]
  · simp [zeroEl]
    omega
  · rw [List.toList_toArray, List.append_assoc, List.take_append_of_le_length (by simp; omega), List.take_take, Nat.min_self]

theorem fl5_take (es : List El) (k : Nat) (hk : k ≤ es.length) : fl5 (es.take k) = (fl5 es).take (k * 5) := by
  have e : fl5 es = fl5 (es.take k) ++ fl5 (es.drop k) := by rw [← fl5_append, List.take_append_drop]
  have hl : (fl5 (es.take k)).length = k * 5 := by rw [fl5_length, List.length_take, Nat.min_eq_left hk]
  rw [e]
  exact (List.take_left' hl).symm

/-- The address behind a place, and what lies there. -/
theorem tail5 {w : World} {S : Nat → Prop} {g n cap : Nat} {es : List El} (h : TRow w S (.slice (some ⟨g, 0, none⟩) n cap) es) (hn : n = es.length) (i : Nat) (hc : es.length ≤ cap) : ∃ so, (if cap = i then some (⟨g, 0, none⟩ : Addr) else some ⟨g, i * 5, none⟩) = so ∧ Src w so (fl5 (es.drop i)) := by
  by_cases hcap : cap = i
  · refine ⟨some ⟨g, 0, none⟩, if_pos hcap, ?_⟩
    rw [List.drop_eq_nil_of_le (by omega)]
    exact Src.nil _ _
  · refine ⟨some ⟨g, i * 5, none⟩, if_neg hcap, fun j u hu => ?_⟩
    have hj := (List.getElem?_eq_some_iff.1 hu).1
    rw [fl5_length, List.length_drop] at hj
    have hu' : (fl5 es)[i * 5 + j]? = some u := by
      have e : fl5 es = fl5 (es.take i) ++ fl5 (es.drop i) := by rw [← fl5_append, List.take_append_drop]
      rw [e, List.getElem?_append_right (by rw [fl5_length, List.length_take]; omega), fl5_length, List.length_take, ← hu]
      congr 1
      omega
    refine ⟨⟨g, i * 5, none⟩, rfl, ?_⟩
    have e : (⟨g, i * 5, none⟩ : Addr).add j = ⟨g, i * 5 + j, none⟩ := by unfold Addr.add; split <;> simp_all
    have ho := h.own
    rw [← hn] at ho
    rw [e, World.ownsRow.cellAt (w := w) ho (i * 5 + j) (by omega), hu']

set_option maxRecDepth 100000 in
set_option maxHeartbeats 2000000 in
theorem delete_any {S : Nat → Prop} {v : Value} {es : List El} (w : World) (h : TRow w S v es) (i : Nat) (hi : i < es.length) (hn : es.length ≤ 100000000) :
    Calls Try.prog 45 #[v, .int .i64 i, .int .i64 ((i + 1 : Nat) : Int)] w fun e w' => ∃ v', e = .returned v' ∧ v'.ownBlock = v.ownBlock ∧ TRow w' S v' (es.eraseIdx i) ∧ Mod (fun k => some k = v.ownBlock) w w' := by
  obtain ⟨e0, he0⟩ : ∃ e0, es[i]? = some e0 := ⟨es[i]'hi, List.getElem?_eq_getElem hi⟩
  obtain ⟨g, cap, cur, rfl, hcap, hSg, hg, _⟩ := h.at_ he0
  have ho := h.own
  rcases ho.2 with ⟨h0, _⟩ | ⟨g', cap', cur', hv, _, hg', _, hcm, hcs, htake⟩
  · cases h0
  injection hv with e1 _ e3
  injection e1 with e1
  injection e1 with e1
  subst e1 e3
  rw [hg] at hg'
  injection hg' with hg'
  injection hg' with hg'
  subst hg'
  obtain ⟨i0, hi0, hz0, hz1, hz2⟩ := info_parts info5
  obtain ⟨so, hso, hsrc⟩ := tail5 h rfl (i + 1) hcap
  have hts : fl5 (es.take i) = cur.toList.take (i * 5) := by
    rw [fl5_take es i (by omega), ← htake, List.take_take, Nat.min_eq_left (by omega)]
  have hl2 : (fl5 (es.drop (i + 1))).length = (es.length - (i + 1)) * 5 := by rw [fl5_length, List.length_drop]
  have hres : ∀ (w' : World) (cur' : Array Value), w'.heap[g]? = some (.cells cur' 27 (0, 0)) → cur'.size = cur.size → cur'.toList.take ((es.length - 1) * 5) = cur.toList.take (i * 5) ++ fl5 (es.drop (i + 1)) → Mod (fun k => k = g) w w' →
      ∃ v', Value.slice (some ⟨g, 0, none⟩) (es.length - 1) cap = v' ∧ v'.ownBlock = (Value.slice (some ⟨g, 0, none⟩) es.length cap).ownBlock ∧ TRow w' S v' (es.eraseIdx i) ∧ Mod (fun k => some k = (Value.slice (some ⟨g, 0, none⟩) es.length cap).ownBlock) w w' := by
    intro w' cur' a1 a2 a3 a4
    refine ⟨_, rfl, rfl, ⟨?_, h.mine, fun e he => ?_⟩, a4.mono (fun k _ e => congrArg some e)⟩
    · have hl : (es.eraseIdx i).length = es.length - 1 := by rw [List.length_eraseIdx]; split <;> omega
      rw [hl]
      refine own_of a1 (by omega) hcm (by rw [a2]; exact hcs) ?_
      rw [a3, ← hts, ← fl5_append, List.eraseIdx_eq_take_drop_succ]
    · refine ((h.sub e (List.mem_of_mem_eraseIdx he)).keep a4 (fun k hk e => hk.2 ?_))
      rw [e]
      rfl
  have HRES := Lib.hid hres
  have HSRC := Lib.hid hsrc
  have HG := Lib.hid (And.intro hg (And.intro hcm (And.intro hcs hts)))
  have HI0 := Lib.hid hi0
  have s0 : (0 : Int) ≤ (i : Int) := by omega
  have s1 : (i : Int) ≤ (i : Int) + 1 := by omega
  have s2 : (i : Int) + 1 ≤ (es.length : Int) := by omega
  have s3 : (es.length : Int) ≤ (cap : Int) := by omega
  have s4 : (i : Int) ≤ (cap : Int) := by omega
  have s5 : ((i : Int) == (i : Int) + 1) = false := beq_eq_false_iff_ne.2 (by omega)
  have s6 : (0 : Int) ≤ (i : Int) + 1 := by omega
  have s7 : (0 : Int) ≤ (es.length : Int) := by omega
  clear h ho he0 hSg hg hcm hcs hts htake hsrc hres hi0 hz0 hz2
  go_enter Try.func45, Try.ntmps45
  go_wp2_with fail
  go_region_law (first
    | (refine step_app_room (by rfl) _ _ 22 (by rfl) 27 i0 5 Try.underlying22 HI0.out hz1 g i cap cur (by rfl) HG.out.1 (by omega) HG.out.2.1 HG.out.2.2.1 so (es.length - (i + 1)) (cap - (i + 1)) (fl5 (es.drop (i + 1))) (by rfl) hl2 (by decide) (HSRC.out.ext (Ext.refl w).drew) (fl5_ones _) (by omega) ?_
       intro cur1 w1 hc1 hc2 hc3 hM1
       have HC1 := Lib.hid (And.intro hc1 (And.intro hc2 (And.intro hc3 hM1)))
       clear hc1 hc2 hc3 hM1)
    | fail)
  obtain ⟨hc1, hc2, hc3, hM1⟩ := HC1.out
  obtain ⟨q, hq⟩ : ∃ q, es.length - 1 = q := ⟨_, rfl⟩
  have hq1 : i + (es.length - (i + 1)) = q := by omega
  have hq2 : es.length - q = 1 := by omega
  have t0 : (0 : Int) ≤ (q : Int) := by omega
  have t1 : (q : Int) ≤ (es.length : Int) := by omega
  have t2 : (if cap = q then some (⟨g, 0, none⟩ : Addr) else some ⟨g, q * 5, none⟩) = some ⟨g, q * 5, none⟩ := if_neg (by omega)
  obtain ⟨cur2, w2, hclr, hd1, hd2, hd3, hM2⟩ := run_clear_one w1 0 g (q * 5) (cap - q) cur1 hc1 (by rw [hc2, HG.out.2.2.1]; omega)
  have HD := Lib.hid (And.intro hd1 (And.intro hd2 (And.intro hd3 (And.intro hM2 (And.intro hc2 (And.intro hc3 (And.intro hM1 (And.intro hq hq1))))))))
  rw [hq1]
  clear hc1 hc2 hc3 hM1 hd1 hd2 hd3 hM2 hq HC1 hq1
  go_wp2_with fail
  go_ret
  obtain ⟨a1, a2, a3, a4, b2, b3, b4, hq, hq1⟩ := HD.out
  have hM : Mod (fun k => k = g) w w2 := ((mod_of_ext ((Ext.refl w).drew)).trans b4 (fun _ _ h => h)).trans a4 (fun _ _ h => h)
  rw [hq1] at b3
  obtain ⟨v', e1, e2, e3, e4⟩ := HRES.out w2 cur2 a1 (by rw [a2, b2]) (by rw [hq, a3, b3]) hM
  rw [hq] at e1
  exact ⟨v', by rw [← e1]; rfl, e2, e3, e4⟩

end Go.Proofs.Yteiognkbkpidiaa
