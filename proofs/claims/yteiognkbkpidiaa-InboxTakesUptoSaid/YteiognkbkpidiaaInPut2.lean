/- An inbox: Put. -/
import Derived.Test.YteiognkbkpidiaaInPut
namespace Go.Proofs.Yteiognkbkpidiaa
open Go.RowKit
attribute [local irreducible] Ext
attribute [local go_sem] run_store_float

theorem own_last {w : World} {es : List El} {so : Option Addr} {sc : Nat} (h : w.ownsRow 0 27 5 (.slice so (es.length + 1) sc) (es.length + 1) (fl5 es ++ zeroEl)) :
    ∃ g, so = some ⟨g, 0, none⟩ ∧ (∀ o, w.frozen? ⟨g, o, none⟩ = false) ∧ w.cell? ⟨g, es.length * 5, none⟩ = some (.int .i64 0) ∧ w.cell? ⟨g, es.length * 5 + 1, none⟩ = some (.int .i64 0) ∧ w.cell? ⟨g, es.length * 5 + 2, none⟩ = some (.float .f64 0) ∧ w.cell? ⟨g, es.length * 5 + 3, none⟩ = some (.string ⟨#[]⟩) ∧ w.cell? ⟨g, es.length * 5 + 4, none⟩ = some (.slice none 0 0) := by
  rcases h.2 with ⟨_, h0⟩ | ⟨g, cap, cur, he, hb, hg, hn, _⟩
  · omega
  · injection he with he _ hcap
    subst he hcap
    have key : ∀ j, j < 5 → w.cell? ⟨g, es.length * 5 + j, none⟩ = zeroEl[j]? := by
      intro j hj
      rw [World.ownsRow.cellAt (w := w) h (es.length * 5 + j) (by omega), List.getElem?_append_right (by rw [fl5_length]; omega), fl5_length]
      congr 1
      omega
    refine ⟨g, rfl, fun o => free_of_heap hg o, ?_, key 1 (by decide), key 2 (by decide), key 3 (by decide), key 4 (by decide)⟩
    have := key 0 (by decide)
    rw [Nat.add_zero] at this
    exact this

/-- What Put tells. -/
def putC (most words : Int) (x : Tm) : Int := if checkT x ≠ 0 then checkT x else if most < words + (wordsT x + 2) then 12 else 0

theorem rbox_alloc {w : World} {b : Nat} {k n : Int} {f : Nat} {s : ByteArray} {so : Option Addr} {m cap : Nat} (h : RBox w b k n f s so m cap) (o : Obj) : RBox (w.alloc o) b k n f s so m cap := h.ext ((Ext.refl w).alloc o)

theorem rbox_drew {w : World} {b : Nat} {k n : Int} {f : Nat} {s : ByteArray} {so : Option Addr} {m cap : Nat} (h : RBox w b k n f s so m cap) : RBox w.drew b k n f s so m cap := h

theorem rbox_set {w : World} {b : Nat} {k n : Int} {f : Nat} {s : ByteArray} {so : Option Addr} {m cap : Nat} (h : RBox w b k n f s so m cap) {p : Addr} (hp : p.block ≠ b) (u : Value) : RBox (w.setCell p u) b k n f s so m cap := (Below.heap_setCell _ _ _ _ (Ne.symm hp)).trans h

/-- One more, whatever was made ahead. -/
theorem TRow.pushg {wA wC w' : World} {S : Nat → Prop} {v v' : Value} {es : List El} {e : El} (h : TRow wA S v es) (hE : Ext wA wC) (hx : RowIn wC true (fun k => wA.heap.size ≤ k) e.1.l e.2.1 0)
    (hown : w'.ownsRow 0 27 5 v' (es.length + 1) (fl5 es ++ elC e)) (hM : Mod (fun k => some k = v.ownBlock) wC w') (hb : v'.ownBlock = v.ownBlock ∨ v'.ownBlock = some wC.heap.size) : TRow w' (fun k => S k ∨ wA.heap.size ≤ k) v' (es ++ [e]) := by
  have hs := hE.size
  have hs3 := hM.size
  refine ⟨?_, fun k hk => ?_, fun d hd => ?_⟩
  · rw [List.length_append, fl5_append, fl5_one]
    exact hown
  · rcases hb with hb | hb
    · exact .inl (h.mine k (by rw [← hb]; exact hk))
    · rw [hb] at hk
      have := Option.some.inj hk
      exact .inr (by omega)
  · rcases List.mem_append.1 hd with hd | hd
    · have h1 := ((h.sub d hd).bound).ext hE
      refine (h1.keep hM (fun k hk => hk.1.2)).mono (fun k hk => ⟨.inl hk.1.1, ?_⟩)
      rcases hb with hb | hb
      · rw [hb]; exact hk.1.2
      · rw [hb]
        intro e
        have := Option.some.inj e
        omega
    · obtain rfl : d = e := by simpa using hd
      refine (hx.bound.keep hM (fun k hk e => ?_)).mono (fun k hk => ⟨.inr hk.1, ?_⟩)
      · have := h.own_lt e.symm; omega
      · rcases hb with hb | hb
        · rw [hb]
          intro e
          have := h.own_lt e.symm; omega
        · rw [hb]
          intro e
          have := Option.some.inj e
          omega

/-- The row has grown by one; what the box holds may still be the elder row. -/
structure Grown (w : World) (S : Nat → Prop) (b : Nat) (most words place : Int) (u : Value) (g sc : Nat) (es : List El) (z : El) (W : World) : Prop where
  box : W.heap[b]? = some (.cells #[.int .i64 most, .int .i64 words, u, .int .i64 place] 59 (0, 0))
  mine : S b
  row : TRow W (fun k => S k ∨ w.heap.size ≤ k) (.slice (some ⟨g, 0, none⟩) (es.length + 1) sc) (es ++ [z])
  mod : Mod S w W
  ne : g ≠ w.heap.size

theorem Grown.ext {w W W' : World} {S : Nat → Prop} {b : Nat} {most words place : Int} {u : Value} {g sc : Nat} {es : List El} {z : El} (h : Grown w S b most words place u g sc es z W) (hE : Ext W W') : Grown w S b most words place u g sc es z W' :=
  ⟨hE.keep h.box, h.mine, h.row.ext hE, h.mod.trans (mod_of_ext hE) (fun _ _ h => h), h.ne⟩

theorem Grown.setl {w W : World} {S : Nat → Prop} {b : Nat} {most words place : Int} {u : Value} {g sc : Nat} {es : List El} {z : El} (h : Grown w S b most words place u g sc es z W) : Grown w S b most words place (.slice (some ⟨g, 0, none⟩) (es.length + 1) sc) g sc es z (W.setCell ⟨b, 2, none⟩ (.slice (some ⟨g, 0, none⟩) (es.length + 1) sc)) :=
  ⟨by simpa using heap_set (o := 2) h.box (.slice (some ⟨g, 0, none⟩) (es.length + 1) sc), h.mine, h.row.keep ((Mod.refl (fun k => k = b) W).setCell (p := ⟨b, 2, none⟩) (.inl rfl) _) (fun k e => .inr (e ▸ other_box h.box)), h.mod.trans (box_mod h.mine 2 _) (fun _ _ h => h), h.ne⟩

theorem Grown.gblk {w W : World} {S : Nat → Prop} {b : Nat} {most words place : Int} {u : Value} {g sc : Nat} {es : List El} {z : El} (h : Grown w S b most words place u g sc es z W) : S g ∨ w.heap.size ≤ g := h.row.mine g rfl

theorem Grown.gb {w W : World} {S : Nat → Prop} {b : Nat} {most words place : Int} {u : Value} {g sc : Nat} {es : List El} {z : El} (h : Grown w S b most words place u g sc es z W) : g ≠ b := by
  intro e
  obtain ⟨cur, hc⟩ := own_blk h.row.own rfl
  subst e
  exact other_box h.box cur hc

theorem Grown.set {w W : World} {S : Nat → Prop} {b : Nat} {most words place : Int} {u : Value} {g sc : Nat} {es : List El} {z : El} (h : Grown w S b most words place u g sc es z W) (x : El) (hx : RowIn W true (fun k => w.heap.size ≤ k ∧ k ≠ g) x.1.l x.2.1 0) : Grown w S b most words place u g sc es x (set5o W g (es.length * 5) x) := by
  have hM : Mod (fun k => k = g) W (set5o W g (es.length * 5) x) := set5o_mod (F := fun k => k = g) (Mod.refl _ W) (.inl rfl) _ x
  have hM2 : Mod S w (set5o W g (es.length * 5) x) := set5o_mod h.mod h.gblk _ x
  refine ⟨hM.keep h.box (fun e => h.gb e.symm), h.mine, ?_, hM2, h.ne⟩
  have := h.row.set (by simp) (i := es.length) (by simp) x (hx.mono (fun k hk => ⟨.inr hk.1, hk.2⟩))
  rw [set_last] at this
  exact this

/-- What 'append' leaves. -/
theorem grown {w w6 wC w8 : World} {S : Nat → Prop} {b : Nat} {most words place : Int} {es : List El} {so6 so8 : Option Addr} {sc6 sc8 : Nat} (hB : BoxV w6 (fun k => S k ∧ k < w.heap.size) b most words place (.slice so6 es.length sc6) es) (hM6 : Mod S w w6) (hsz : w.heap.size + 1 ≤ w6.heap.size) (hE : Ext w6 wC)
    (hown : w8.ownsRow 0 27 5 (.slice so8 (es.length + 1) sc8) (es.length + 1) (fl5 es ++ zeroEl)) (hM : Mod (fun k => some k = (Value.slice so6 es.length sc6).ownBlock) wC w8) (hb : (Value.slice so8 (es.length + 1) sc8).ownBlock = (Value.slice so6 es.length sc6).ownBlock ∨ (Value.slice so8 (es.length + 1) sc8).ownBlock = some wC.heap.size) :
    ∃ g, so8 = some ⟨g, 0, none⟩ ∧ Grown w S b most words place (.slice so6 es.length sc6) g sc8 es zEl w8 ∧ (g < w.heap.size ∨ g = wC.heap.size) := by
  obtain ⟨g, rfl, _⟩ := own_last hown
  have hs := hE.size
  have hg : g < w.heap.size ∨ g = wC.heap.size := by
    rcases hb with hb | hb
    · exact .inl (hB.row.mine g (by rw [← hb]; rfl)).2
    · exact .inr (Option.some.inj hb)
  refine ⟨g, rfl, ⟨?_, hB.mine.1, ?_, ?_, by omega⟩, hg⟩
  · refine hM.keep (hE.keep hB.blk) (fun e => ?_)
    obtain ⟨cur, hc⟩ := own_blk hB.row.own e.symm
    exact other_box hB.blk cur hc
  · exact (hB.row.pushg (e := zEl) hE trivial hown hM hb).mono (fun k hk => by rcases hk with hk | hk <;> first | exact .inl hk.1 | exact .inr (by omega))
  · exact (hM6.trans (mod_of_ext hE) (fun _ _ h => h)).trans hM (fun k _ e => (hB.row.mine k e.symm).1)

/-- The cells at the row's end, and the box's. -/
theorem Grown.cells {w W : World} {S : Nat → Prop} {b : Nat} {most words place : Int} {u : Value} {g sc : Nat} {es : List El} (h : Grown w S b most words place u g sc es zEl W) :
    W.cell? ⟨g, es.length * 5, none⟩ = some (.int .i64 0) ∧ W.cell? ⟨g, es.length * 5 + 1, none⟩ = some (.int .i64 0) ∧ W.cell? ⟨g, es.length * 5 + 2, none⟩ = some (.float .f64 0) ∧ W.cell? ⟨g, es.length * 5 + 3, none⟩ = some (.string ⟨#[]⟩) ∧ W.cell? ⟨g, es.length * 5 + 4, none⟩ = some (.slice none 0 0) ∧
    (∀ o, W.frozen? ⟨g, o, none⟩ = false) ∧ W.cell? ⟨b, 2, none⟩ = some u ∧ W.frozen? ⟨b, 2, none⟩ = false := by
  have ho : W.ownsRow 0 27 5 (.slice (some ⟨g, 0, none⟩) (es.length + 1) sc) (es.length + 1) (fl5 es ++ zeroEl) := by
    have := h.row.own
    rw [List.length_append, fl5_append, fl5_one] at this
    exact this
  obtain ⟨g', e, hf, q0, q1, q2, q3, q4⟩ := own_last ho
  injection e with e
  injection e with e
  subst e
  exact ⟨q0, q1, q2, q3, q4, hf, by simp [cell_of_heap h.box], free_of_heap h.box 2⟩

theorem src_zero {w : World} {g : Nat} (h : w.heap[g]? = some (.cells #[.int .i64 0, .int .i64 0, .float .f64 0, .string ⟨#[]⟩, .slice none 0 0] 27 (0, 0))) : Src w (some ⟨g, 0, none⟩) zeroEl := src_el zEl h

theorem ones_zero : ∀ u ∈ zeroEl, u.oneCell' = true := elC_ones zEl

/-- What Put leaves where there is room. -/
def PutPost (w : World) (S : Nat → Prop) (b : Nat) (most words place : Int) (es : List El) (x : Tm) (e : Ending) (w' : World) : Prop :=
  e = .returned (.int .i64 0) ∧ ∃ v' so cap, BoxV w' (fun k => S k ∨ w.heap.size ≤ k) b most words place v' (es ++ [(x, so, cap)]) ∧ Mod S w w'

theorem Grown.post {w W : World} {S : Nat → Prop} {b : Nat} {most words place : Int} {g sc : Nat} {es : List El} {t : Tm} {so : Option Addr} {cap : Nat} (h : Grown w S b most words place (.slice (some ⟨g, 0, none⟩) (es.length + 1) sc) g sc es (t, so, cap) W) : PutPost w S b most words place es t (.returned (.int .i64 0)) W :=
  ⟨rfl, _, so, cap, ⟨h.box, .inl h.mine, h.row⟩, h.mod⟩

/-- A copy that was made ahead. -/
theorem late_row {w w7 wC w8 : World} {L : List Tm} {so7 : Option Addr} {X g : Nat} {v : Value} (hr : RowIn w7 true (fun k => X ≤ k) L so7 0) (hX : w.heap.size + 1 ≤ X) (hE : Ext w7 wC) (hM : Mod (fun k => some k = v.ownBlock) wC w8)
    (hv : ∀ k, some k = v.ownBlock → k < w.heap.size) (hg : g < w.heap.size ∨ g = wC.heap.size) : RowIn w8 true (fun k => w.heap.size ≤ k ∧ k ≠ g) L so7 0 := by
  have hs := hE.size
  refine (((hr.bound).ext hE).keep hM (fun k hk e => ?_)).mono (fun k hk => ⟨?_, ?_⟩)
  · have h1 := hv k e
    have h2 : X ≤ k := hk.1
    omega
  · have h2 : X ≤ k := hk.1
    omega
  · have h2 : X ≤ k := hk.1
    have h3 : k < w7.heap.size := hk.2
    omega

/-- A copy that was made behind. -/
theorem Grown.late {w W W' : World} {S : Nat → Prop} {b : Nat} {most words place : Int} {u : Value} {g sc : Nat} {es : List El} {z : El} {L : List Tm} {so7 : Option Addr} (h : Grown w S b most words place u g sc es z W) (hr : RowIn W' true (fun k => W.heap.size ≤ k) L so7 0) : RowIn W' true (fun k => w.heap.size ≤ k ∧ k ≠ g) L so7 0 := by
  have h1 := h.mod.size
  have h2 := h.row.own_lt (k := g) rfl
  exact hr.mono (fun k hk => ⟨by omega, by omega⟩)

theorem row_setb {w W : World} {L : List Tm} {so7 : Option Addr} {g b : Nat} {u : Value} (hr : RowIn W true (fun k => w.heap.size ≤ k ∧ k ≠ g) L so7 0) (hb : b < w.heap.size) : RowIn (W.setCell ⟨b, 2, none⟩ u) true (fun k => w.heap.size ≤ k ∧ k ≠ g) L so7 0 :=
  hr.keep ((Mod.refl (fun k => k = b) W).setCell (p := ⟨b, 2, none⟩) (.inl rfl) _) (fun k hk e => by have := hk.1; omega)

theorem Grown.fin1 {w W : World} {S : Nat → Prop} {b : Nat} {most words place : Int} {u : Value} {g sc : Nat} {es : List El} (h : Grown w S b most words place u g sc es zEl W) (t : Tm) (so : Option Addr) (cap : Nat) (hx : RowIn W true (fun k => w.heap.size ≤ k ∧ k ≠ g) t.l so 0) :
    PutPost w S b most words place es t (.returned (.int .i64 0)) ((((((W.setCell ⟨g, es.length * 5, none⟩ (.int .i64 t.kind)).setCell ⟨g, es.length * 5 + 1, none⟩ (.int .i64 t.n)).setCell ⟨g, es.length * 5 + 2, none⟩ (.float .f64 t.f)).setCell ⟨g, es.length * 5 + 3, none⟩ (.string t.s)).setCell ⟨g, es.length * 5 + 4, none⟩ (.slice so t.l.length cap)).setCell ⟨b, 2, none⟩ (.slice (some ⟨g, 0, none⟩) (es.length + 1) sc)) := (h.set (t, so, cap) hx).setl.post

theorem Grown.fin2 {w W : World} {S : Nat → Prop} {b : Nat} {most words place : Int} {u : Value} {g sc : Nat} {es : List El} (h : Grown w S b most words place u g sc es zEl W) (t : Tm) (so : Option Addr) (cap : Nat) (hx : RowIn W true (fun k => w.heap.size ≤ k ∧ k ≠ g) t.l so 0) (hb : b < w.heap.size) :
    PutPost w S b most words place es t (.returned (.int .i64 0)) ((((((W.setCell ⟨b, 2, none⟩ (.slice (some ⟨g, 0, none⟩) (es.length + 1) sc)).setCell ⟨g, es.length * 5, none⟩ (.int .i64 t.kind)).setCell ⟨g, es.length * 5 + 1, none⟩ (.int .i64 t.n)).setCell ⟨g, es.length * 5 + 2, none⟩ (.float .f64 t.f)).setCell ⟨g, es.length * 5 + 3, none⟩ (.string t.s)).setCell ⟨g, es.length * 5 + 4, none⟩ (.slice so t.l.length cap)) := (h.setl.set (t, so, cap) (row_setb hx hb)).post

theorem Grown.fin3 {w W : World} {S : Nat → Prop} {b : Nat} {most words place : Int} {g sc : Nat} {es : List El} (h : Grown w S b most words place (.slice (some ⟨g, 0, none⟩) (es.length + 1) sc) g sc es zEl W) (t : Tm) (so : Option Addr) (cap : Nat) (hx : RowIn W true (fun k => w.heap.size ≤ k ∧ k ≠ g) t.l so 0) :
    PutPost w S b most words place es t (.returned (.int .i64 0)) (((((W.setCell ⟨g, es.length * 5, none⟩ (.int .i64 t.kind)).setCell ⟨g, es.length * 5 + 1, none⟩ (.int .i64 t.n)).setCell ⟨g, es.length * 5 + 2, none⟩ (.float .f64 t.f)).setCell ⟨g, es.length * 5 + 3, none⟩ (.string t.s)).setCell ⟨g, es.length * 5 + 4, none⟩ (.slice so t.l.length cap)) := (h.set (t, so, cap) hx).post

section
variable {S : Nat → Prop} {b : Nat} {most words place : Int} {v : Value} {es : List El} {x : Tm} {own : Bool} {G : Nat → Prop} {xv : Value}

set_option maxRecDepth 100000 in
set_option maxHeartbeats 1000000 in
theorem put_bad (w : World) (hx : TmV w own G xv x) (hc : cntT x ≤ 100000000) (hok : okT x) (hne : checkT x ≠ 0) :
    Calls Try.prog 10 #[.pointer (some ⟨b, 0, none⟩), xv] w fun e w' => e = .returned (.int .i64 (checkT x)) ∧ Ext w w' := by
  have HK := Lib.hid (fun w (hv : TmV w own G xv x) => pcheck_any w hv hc hok)
  obtain ⟨c, hcc⟩ : ∃ c, checkT x = c := ⟨_, rfl⟩
  rw [hcc] at HK hne ⊢
  have s0 : (c != 0) = true := by simpa using hne
  obtain ⟨k, n, f, s, L⟩ := x
  obtain ⟨so, cap, rfl, hrow⟩ := hx.parts
  have HE := Lib.hid ((Ext.refl w).alloc (.cells #[.int .i64 k, .int .i64 n, .float .f64 f, .string s, .slice so L.length cap] 27))
  have HR := Lib.hid (hrow.ext HE.out)
  clear hx hrow hc hok hcc hne
  go_enter Try.func10, Try.ntmps10
  go_wp2_with (go_at_call 24; (with_reducible refine (HK.out _ (TmV.of_parts HR.out)).mono ?_); rintro e wa ⟨rfl, hEa⟩; have HEa := Lib.hid hEa; clear hEa)
  go_ret
  exact ⟨rfl, HE.out.trans HEa.out⟩

set_option maxRecDepth 100000 in
set_option maxHeartbeats 2000000 in
theorem put_over (w : World) (h : BoxV w S b most words place v es) (hx : TmV w own G xv x) (hc : cntT x ≤ 100000000) (hok : okT x) (he : checkT x = 0) (hw0 : 0 ≤ words) (hw1 : words ≤ 1000000000) (hov : most < words + (wordsT x + 2)) :
    Calls Try.prog 10 #[.pointer (some ⟨b, 0, none⟩), xv] w fun e w' => e = .returned (.int .i64 12) ∧ Ext w w' := by
  have HK := Lib.hid (fun w (hv : TmV w own G xv x) => pcheck_any w hv hc hok)
  have HC := Lib.hid (fun w (hv : TmV w own G xv x) => cost_any w hv hc hok)
  have hwr := words_range x
  obtain ⟨m, hm⟩ : ∃ m, wordsT x + 2 = m := ⟨_, rfl⟩
  rw [he] at HK
  rw [hm] at HC hov
  have e1 : IntKind.i64.wrap (words + m) = words + m := IntWalk.i64_in _ (by omega)
  have b1 : decide (most < words + m) = true := decide_eq_true hov
  obtain ⟨k, n, f, s, L⟩ := x
  obtain ⟨so, cap, rfl, hrow⟩ := hx.parts
  have HE := Lib.hid ((Ext.refl w).alloc (.cells #[.int .i64 k, .int .i64 n, .float .f64 f, .string s, .slice so L.length cap] 27))
  have HR := Lib.hid (hrow.ext HE.out)
  have HB := Lib.hid (RBox.new w k n f s so L.length cap)
  have H := Lib.hid (h.ext HE.out)
  clear hx hrow hc hok h he hwr hw0 hw1 hov hm
  go_enter Try.func10, Try.ntmps10
  go_upto_region 4 with (go_at_call 24; (with_reducible refine (HK.out _ (TmV.of_parts HR.out)).mono ?_); rintro e w2 ⟨rfl, hE2⟩; have HE2 := Lib.hid hE2; clear hE2)
  obtain ⟨c0, c1, c2, c3, _⟩ := (H.out.ext HE2.out).cells
  obtain ⟨z0, z1, z2, z3, z4⟩ := (HB.out.ext HE2.out).cells
  have hcost := HC.out w2.drew ((TmV.of_parts HR.out).ext (HE2.out.drew))
  go_region_law (first
    | (go_simp; go_at_call 25; (with_reducible refine hcost.mono ?_); rintro e w3 ⟨rfl, hE3⟩; have hE3 := HE2.out.drew.trans hE3; obtain ⟨d0, d1, d2, d3, _⟩ := (H.out.ext hE3).cells; have HE3 := Lib.hid hE3; clear hE3)
    | fail)
  all_goals go_wp2
  all_goals go_ret
  all_goals exact ⟨rfl, HE.out.trans HE3.out⟩
end

end Go.Proofs.Yteiognkbkpidiaa
