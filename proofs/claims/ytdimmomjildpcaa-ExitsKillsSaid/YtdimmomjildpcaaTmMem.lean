/- Terms in memory. -/
import Derived.Test.YtdimmomjildpcaaMem
import Derived.Test.YtdimmomjildpcaaTmPlain
import Derived.Lib.Hide
import Derived.Outline
import Derived.Deep.LoopGhost
import Derived.Deep.Cut
import Derived.BigRegion
import Derived.Deep.QuietTactic
import Derived.Deep.RegionHeld3
import Derived.Deep.RegionLaw
namespace Go.Proofs.Ytdimmomjildpcaa
open Go.RowKit

/-- Nothing that was there has turned. -/
def Ext (w w' : World) : Prop := Mod (fun _ => False) w w'

theorem Ext.refl (w : World) : Ext w w := Mod.refl _ w
theorem Ext.trans {a b c : World} (h : Ext a b) (k : Ext b c) : Ext a c := Mod.trans h k (fun _ _ h => h)
theorem Ext.alloc {a b : World} (h : Ext a b) (o : Obj) : Ext a (b.alloc o) := Mod.alloc h o
theorem Ext.drew {a b : World} (h : Ext a b) : Ext a b.drew := Mod.drew h
theorem Ext.drewN {a b : World} (h : Ext a b) (n : Nat) : Ext a (b.drewN n) := Mod.drewN h n
theorem Ext.keep {a b : World} (h : Ext a b) {k : Nat} {o : Obj} (ho : a.heap[k]? = some o) : b.heap[k]? = some o := Mod.keep h ho (fun h => h)
theorem Ext.size {a b : World} (h : Ext a b) : a.heap.size ≤ b.heap.size := Mod.size h
theorem Ext.below {a b : World} (h : Ext a b) : Below a.heap.size a b := Mod.below h (Nat.le_refl _) (fun _ h => h.elim)
theorem Ext.cell {a b : World} (h : Ext a b) {p : Addr} {v : Value} (hc : a.cell? p = some v) : b.cell? p = some v := by
  rw [h.below.cell (p := p) (World.block_lt_of_cell? a _ hc)]; exact hc
theorem mod_of_ext {F : Nat → Prop} {w w' : World} (h : Ext w w') : Mod F w w' := Mod.mono h (fun _ _ h => h.elim)
theorem ext_of_mod {a b c : World} {F : Nat → Prop} (h : Ext a b) (hM : Mod F b c) (hF : ∀ k, F k → a.heap.size ≤ k) : Ext a c :=
  Mod.trans h hM (fun i hi hf => by have := hF i hf; omega)

/-- A float is stored. -/
theorem run_store_float {P : Program} (w : World) (a : Addr) (k : FloatKind) (n : Nat) (m : Mode) : (store a (.float k n) m).run P w = stored P w a (.float k n) m := run_store P w a _ m rfl

theorem mod_cell {F : Nat → Prop} {a b : World} (h : Mod F a b) {p : Addr} {v : Value} (hc : a.cell? p = some v) (hF : ¬ F p.block) : b.cell? p = some v := by
  have hl := World.block_lt_of_cell? a _ hc
  have hb := h.block p.block hl hF
  unfold World.cell? at hc ⊢
  rw [hb]
  exact hc

/-- What a block is, where rows are one's own. -/
def OwnBlk (own : Bool) (w : World) (b : Nat) : Prop := own = true → ∃ cur, w.heap[b]? = some (.cells cur 25 (0, 0))

mutual
/-- A term's five cells lie at an address; its elements' rows lie in blocks of G. -/
def TmIn (w : World) (own : Bool) (G : Nat → Prop) : Tm → Nat → Nat → Prop
  | .mk k n f s l, b, o => w.cell? ⟨b, o, none⟩ = some (.int .i64 k) ∧ w.cell? ⟨b, o + 1, none⟩ = some (.int .i64 n) ∧ w.cell? ⟨b, o + 2, none⟩ = some (.float .f64 f) ∧ w.cell? ⟨b, o + 3, none⟩ = some (.string s) ∧
      ∃ so cap, w.cell? ⟨b, o + 4, none⟩ = some (.slice so l.length cap) ∧ RowIn w own G l so 0
/-- Terms, one behind the other. -/
def RowIn (w : World) (own : Bool) (G : Nat → Prop) : List Tm → Option Addr → Nat → Prop
  | [], _, _ => True
  | x :: xs, so, i => (∃ b o, so = some ⟨b, o, none⟩ ∧ G b ∧ OwnBlk own w b ∧ TmIn w own G x b (o + i * 5)) ∧ RowIn w own G xs so (i + 1)
end

/-- A term's value. -/
def elV (t : Tm) (so : Option Addr) (cap : Nat) : Value := .agg #[.int .i64 t.kind, .int .i64 t.n, .float .f64 t.f, .string t.s, .slice so t.l.length cap]

/-- A value is a term. -/
def TmV (w : World) (own : Bool) (G : Nat → Prop) (v : Value) (t : Tm) : Prop := ∃ so cap, v = elV t so cap ∧ RowIn w own G t.l so 0

theorem TmIn.cells {w : World} {own : Bool} {G : Nat → Prop} {t : Tm} {b o : Nat} (h : TmIn w own G t b o) : w.cell? ⟨b, o, none⟩ = some (.int .i64 t.kind) ∧ w.cell? ⟨b, o + 1, none⟩ = some (.int .i64 t.n) ∧ w.cell? ⟨b, o + 2, none⟩ = some (.float .f64 t.f) ∧ w.cell? ⟨b, o + 3, none⟩ = some (.string t.s) ∧
    ∃ so cap, w.cell? ⟨b, o + 4, none⟩ = some (.slice so t.l.length cap) ∧ RowIn w own G t.l so 0 := by
  obtain ⟨k, n, f, s, l⟩ := t
  unfold TmIn at h
  exact h

theorem TmIn.mk' {w : World} {own : Bool} {G : Nat → Prop} {t : Tm} {b o : Nat} (h : w.cell? ⟨b, o, none⟩ = some (.int .i64 t.kind) ∧ w.cell? ⟨b, o + 1, none⟩ = some (.int .i64 t.n) ∧ w.cell? ⟨b, o + 2, none⟩ = some (.float .f64 t.f) ∧ w.cell? ⟨b, o + 3, none⟩ = some (.string t.s) ∧
    ∃ so cap, w.cell? ⟨b, o + 4, none⟩ = some (.slice so t.l.length cap) ∧ RowIn w own G t.l so 0) : TmIn w own G t b o := by
  obtain ⟨k, n, f, s, l⟩ := t
  unfold TmIn
  exact h

/-- One of a row. -/
theorem RowIn.get {w : World} {own : Bool} {G : Nat → Prop} {l : List Tm} {so : Option Addr} {i : Nat} (h : RowIn w own G l so i) {j : Nat} {x : Tm} (hx : l[j]? = some x) : ∃ b o, so = some ⟨b, o, none⟩ ∧ G b ∧ OwnBlk own w b ∧ TmIn w own G x b (o + (i + j) * 5) := by
  induction l generalizing i j with
  | nil => simp at hx
  | cons y ys ih =>
    unfold RowIn at h
    cases j with
    | zero =>
      obtain rfl : y = x := by simpa using hx
      exact h.1
    | succ j =>
      have := ih h.2 (j := j) (by simpa using hx)
      rw [show i + (j + 1) = i + 1 + j by omega]
      exact this

theorem RowIn.of_get {w : World} {own : Bool} {G : Nat → Prop} {l : List Tm} {so : Option Addr} {i : Nat} (h : ∀ j x, l[j]? = some x → ∃ b o, so = some ⟨b, o, none⟩ ∧ G b ∧ OwnBlk own w b ∧ TmIn w own G x b (o + (i + j) * 5)) : RowIn w own G l so i := by
  induction l generalizing i with
  | nil => unfold RowIn; trivial
  | cons y ys ih =>
    unfold RowIn
    refine ⟨h 0 y rfl, ih (fun j x hx => ?_)⟩
    have := h (j + 1) x (by simpa using hx)
    rw [show i + 1 + j = i + (j + 1) by omega]
    exact this

/-- From one reading to another. -/
theorem TmIn.imp {w w' : World} {own own' : Bool} {G G' : Nat → Prop} (hb : ∀ b, G b → OwnBlk own w b → G' b ∧ OwnBlk own' w' b) (hc : ∀ b o v, G b → w.cell? ⟨b, o, none⟩ = some v → w'.cell? ⟨b, o, none⟩ = some v) :
    ∀ (t : Tm) (b o : Nat), (∀ o v, w.cell? ⟨b, o, none⟩ = some v → w'.cell? ⟨b, o, none⟩ = some v) → TmIn w own G t b o → TmIn w' own' G' t b o := by
  intro t
  induction t using Tm.ind with
  | h t ih =>
    intro b o hcb h
    obtain ⟨h0, h1, h2, h3, so, cap, h4, hr⟩ := h.cells
    refine TmIn.mk' ⟨hcb _ _ h0, hcb _ _ h1, hcb _ _ h2, hcb _ _ h3, so, cap, hcb _ _ h4, ?_⟩
    refine RowIn.of_get fun j x hx => ?_
    obtain ⟨b', o', e, g, ob, hi⟩ := hr.get hx
    obtain ⟨g', ob'⟩ := hb b' g ob
    exact ⟨b', o', e, g', ob', ih x (List.mem_of_getElem? hx) b' _ (fun o v => hc b' o v g) hi⟩

theorem RowIn.imp {w w' : World} {own own' : Bool} {G G' : Nat → Prop} {l : List Tm} {so : Option Addr} {i : Nat} (h : RowIn w own G l so i) (hb : ∀ b, G b → OwnBlk own w b → G' b ∧ OwnBlk own' w' b) (hc : ∀ b o v, G b → w.cell? ⟨b, o, none⟩ = some v → w'.cell? ⟨b, o, none⟩ = some v) :
    RowIn w' own' G' l so i := by
  refine RowIn.of_get fun j x hx => ?_
  obtain ⟨b', o', e, g, ob, hi⟩ := h.get hx
  obtain ⟨g', ob'⟩ := hb b' g ob
  exact ⟨b', o', e, g', ob', TmIn.imp hb hc x b' _ (fun o v => hc b' o v g) hi⟩

theorem OwnBlk.mod {F : Nat → Prop} {w w' : World} {own : Bool} {b : Nat} (h : OwnBlk own w b) (hM : Mod F w w') (hF : ¬ F b) : OwnBlk own w' b := fun ho => by
  obtain ⟨cur, hc⟩ := h ho
  exact ⟨cur, hM.keep hc hF⟩

theorem RowIn.keep {F : Nat → Prop} {w w' : World} {own : Bool} {G : Nat → Prop} {l : List Tm} {so : Option Addr} {i : Nat} (h : RowIn w own G l so i) (hM : Mod F w w') (hF : ∀ k, G k → ¬ F k) : RowIn w' own G l so i :=
  h.imp (fun b g ob => ⟨g, ob.mod hM (hF b g)⟩) (fun b _ _ g hc => mod_cell hM hc (hF b g))

theorem RowIn.ext {w w' : World} {own : Bool} {G : Nat → Prop} {l : List Tm} {so : Option Addr} {i : Nat} (h : RowIn w own G l so i) (hE : Ext w w') : RowIn w' own G l so i := h.keep hE (fun _ _ h => h)

theorem RowIn.mono {w : World} {own : Bool} {G G' : Nat → Prop} {l : List Tm} {so : Option Addr} {i : Nat} (h : RowIn w own G l so i) (hG : ∀ k, G k → G' k) : RowIn w own G' l so i :=
  h.imp (fun b g ob => ⟨hG b g, ob⟩) (fun _ _ _ _ hc => hc)

theorem RowIn.loose {w : World} {own : Bool} {G : Nat → Prop} {l : List Tm} {so : Option Addr} {i : Nat} (h : RowIn w own G l so i) : RowIn w false G l so i :=
  h.imp (fun _ g _ => ⟨g, fun h => by cases h⟩) (fun _ _ _ _ hc => hc)

theorem TmIn.keep {F : Nat → Prop} {w w' : World} {own : Bool} {G : Nat → Prop} {t : Tm} {b o : Nat} (h : TmIn w own G t b o) (hM : Mod F w w') (hF : ∀ k, G k → ¬ F k) (hb : ¬ F b) : TmIn w' own G t b o :=
  TmIn.imp (fun b g ob => ⟨g, ob.mod hM (hF b g)⟩) (fun b _ _ g hc => mod_cell hM hc (hF b g)) t b o (fun _ _ hc => mod_cell hM hc hb) h

theorem TmV.keep {F : Nat → Prop} {w w' : World} {own : Bool} {G : Nat → Prop} {v : Value} {t : Tm} (h : TmV w own G v t) (hM : Mod F w w') (hF : ∀ k, G k → ¬ F k) : TmV w' own G v t := by
  obtain ⟨so, cap, e, hr⟩ := h
  exact ⟨so, cap, e, hr.keep hM hF⟩

theorem TmV.ext {w w' : World} {own : Bool} {G : Nat → Prop} {v : Value} {t : Tm} (h : TmV w own G v t) (hE : Ext w w') : TmV w' own G v t := h.keep hE (fun _ _ h => h)

theorem TmV.mono {w : World} {own : Bool} {G G' : Nat → Prop} {v : Value} {t : Tm} (h : TmV w own G v t) (hG : ∀ k, G k → G' k) : TmV w own G' v t := by
  obtain ⟨so, cap, e, hr⟩ := h
  exact ⟨so, cap, e, hr.mono hG⟩

theorem TmV.loose {w : World} {own : Bool} {G : Nat → Prop} {v : Value} {t : Tm} (h : TmV w own G v t) : TmV w false G v t := by
  obtain ⟨so, cap, e, hr⟩ := h
  exact ⟨so, cap, e, hr.loose⟩

/-- What the blocks of a term's rows are bounded by. -/
theorem TmIn.lt {w : World} {own : Bool} {G : Nat → Prop} {t : Tm} {b o : Nat} (h : TmIn w own G t b o) : b < w.heap.size := World.block_lt_of_cell? w _ h.cells.1

theorem TmIn.bound {w : World} {own : Bool} {G : Nat → Prop} : ∀ (t : Tm) (b o : Nat), TmIn w own G t b o → TmIn w own (fun k => G k ∧ k < w.heap.size) t b o := by
  intro t
  induction t using Tm.ind with
  | h t ih =>
    intro b o h
    obtain ⟨h0, h1, h2, h3, so, cap, h4, hr⟩ := h.cells
    refine TmIn.mk' ⟨h0, h1, h2, h3, so, cap, h4, RowIn.of_get fun j x hx => ?_⟩
    obtain ⟨b', o', e, g, ob, hi⟩ := hr.get hx
    exact ⟨b', o', e, ⟨g, hi.lt⟩, ob, ih x (List.mem_of_getElem? hx) b' _ hi⟩

theorem RowIn.bound {w : World} {own : Bool} {G : Nat → Prop} {l : List Tm} {so : Option Addr} {i : Nat} (h : RowIn w own G l so i) : RowIn w own (fun k => G k ∧ k < w.heap.size) l so i :=
  RowIn.of_get fun _ _ hx => by
    obtain ⟨b', o', e, g, ob, hi⟩ := h.get hx
    exact ⟨b', o', e, ⟨g, hi.lt⟩, ob, TmIn.bound _ _ _ hi⟩

theorem TmV.bound {w : World} {own : Bool} {G : Nat → Prop} {v : Value} {t : Tm} (h : TmV w own G v t) : TmV w own (fun k => G k ∧ k < w.heap.size) v t := by
  obtain ⟨so, cap, e, hr⟩ := h
  exact ⟨so, cap, e, hr.bound⟩

/-- A term's cells in a block of their own. -/
def RBox (w : World) (b : Nat) (k n : Int) (f : Nat) (s : ByteArray) (so : Option Addr) (m cap : Nat) : Prop := w.heap[b]? = some (.cells #[.int .i64 k, .int .i64 n, .float .f64 f, .string s, .slice so m cap] 25 (0, 0))

theorem RBox.new (w : World) (k n : Int) (f : Nat) (s : ByteArray) (so : Option Addr) (m cap : Nat) : RBox (w.alloc (.cells #[.int .i64 k, .int .i64 n, .float .f64 f, .string s, .slice so m cap] 25)) w.heap.size k n f s so m cap := heap_alloc_new w _

section
variable {w w' : World} {b : Nat} {k n : Int} {f : Nat} {s : ByteArray} {so : Option Addr} {m cap : Nat}

theorem RBox.ext (h : RBox w b k n f s so m cap) (hE : Ext w w') : RBox w' b k n f s so m cap := hE.keep h

theorem RBox.keep {F : Nat → Prop} (h : RBox w b k n f s so m cap) (hM : Mod F w w') (hF : ¬ F b) : RBox w' b k n f s so m cap := hM.keep h hF

theorem RBox.cells (h : RBox w b k n f s so m cap) : w.cell? ⟨b, 0, none⟩ = some (.int .i64 k) ∧ w.cell? ⟨b, 1, none⟩ = some (.int .i64 n) ∧ w.cell? ⟨b, 2, none⟩ = some (.float .f64 f) ∧ w.cell? ⟨b, 3, none⟩ = some (.string s) ∧ w.cell? ⟨b, 4, none⟩ = some (.slice so m cap) :=
  ⟨by simp [cell_of_heap h], by simp [cell_of_heap h], by simp [cell_of_heap h], by simp [cell_of_heap h], by simp [cell_of_heap h]⟩

theorem RBox.free (h : RBox w b k n f s so m cap) (o : Nat) : w.frozen? ⟨b, o, none⟩ = false := free_of_heap h o

theorem RBox.lt (h : RBox w b k n f s so m cap) : b < w.heap.size := heap_lt h
end

/-- The parts of a term, for a walk. -/
theorem TmV.parts {w : World} {own : Bool} {G : Nat → Prop} {v : Value} {k n : Int} {f : Nat} {s : ByteArray} {l : List Tm} (h : TmV w own G v (.mk k n f s l)) : ∃ so cap, v = .agg #[.int .i64 k, .int .i64 n, .float .f64 f, .string s, .slice so l.length cap] ∧ RowIn w own G l so 0 := h

theorem TmV.mk' {w : World} {own : Bool} {G : Nat → Prop} {t : Tm} {so : Option Addr} {cap : Nat} (h : RowIn w own G t.l so 0) : TmV w own G (elV t so cap) t := ⟨so, cap, rfl, h⟩

theorem TmV.of_parts {w : World} {own : Bool} {G : Nat → Prop} {k n : Int} {f : Nat} {s : ByteArray} {l : List Tm} {so : Option Addr} {cap : Nat} (h : RowIn w own G l so 0) : TmV w own G (.agg #[.int .i64 k, .int .i64 n, .float .f64 f, .string s, .slice so l.length cap]) (.mk k n f s l) := ⟨so, cap, rfl, h⟩

/-- One of a row, as a walk meets it. -/
theorem RowIn.elem {own : Bool} {w : World} {G : Nat → Prop} {l : List Tm} {so : Option Addr} (h : RowIn w own G l so 0) {j : Nat} {x : Tm} (hx : l[j]? = some x) :
    ∃ b o so' cap', so = some ⟨b, o, none⟩ ∧ w.cell? ⟨b, o + j * 5, none⟩ = some (.int .i64 x.kind) ∧ w.cell? ⟨b, o + j * 5 + 1, none⟩ = some (.int .i64 x.n) ∧ w.cell? ⟨b, o + j * 5 + 2, none⟩ = some (.float .f64 x.f) ∧ w.cell? ⟨b, o + j * 5 + 3, none⟩ = some (.string x.s) ∧
      w.cell? ⟨b, o + j * 5 + 4, none⟩ = some (.slice so' x.l.length cap') ∧ TmV w own G (elV x so' cap') x := by
  obtain ⟨b, o, e, _, _, hi⟩ := h.get hx
  rw [Nat.zero_add] at hi
  obtain ⟨h0, h1, h2, h3, so', cap', h4, hr⟩ := hi.cells
  exact ⟨b, o, so', cap', e, h0, h1, h2, h3, h4, so', cap', rfl, hr⟩

end Go.Proofs.Ytdimmomjildpcaa
