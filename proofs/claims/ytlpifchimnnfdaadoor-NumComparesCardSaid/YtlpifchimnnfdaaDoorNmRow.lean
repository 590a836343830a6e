/- Numbers' rows: what they list is laid; from 'each call answers true' to the row's inner form. -/
import Derived.Test.YtlpifchimnnfdaaDoorNmLift
import Derived.Test.YtlpifchimnnfdaaDoorNmText
import Derived.SizedLaws
namespace Go.Proofs.YtlpifchimnnfdaaDoor
open Go.ChangeShapes Go.WideShapes Go.ChangeAt Go.RowKit

theorem range_u64 {a : Int} (h : (Lit.int .u64 a).wf = true) : 0 ≤ a ∧ a < 18446744073709551616 := by
  simp [Lit.wf, IntKind.min, IntKind.max, IntKind.signed, IntKind.bits] at h
  omega

theorem range_i64 {a : Int} (h : (Lit.int .i64 a).wf = true) : -9223372036854775808 ≤ a ∧ a ≤ 9223372036854775807 := by
  simp [Lit.wf, IntKind.min, IntKind.max, IntKind.signed, IntKind.bits] at h
  omega

theorem trodAll_length {H : Type} {enc : TypeId × Value → H} {P : Program} {w : World} {base : Nat} {spare : Nat → Bool} {held : Bool} :
    ∀ {ts : List TypeId} {vs : List Value} {ds : List (DataW H)} {p : List MemPlace}, DataW.TrodAll enc P w base spare held ts vs ds p → ds.length = ts.length ∧ vs.length = ts.length
  | [], _, _, _, h => by
    obtain ⟨rfl, rfl, rfl⟩ := trodAll_nil h
    exact ⟨rfl, rfl⟩
  | _ :: _, _, _, _, h => by
    obtain ⟨v, vs1, d, ds1, a, b, rfl, rfl, rfl, h1, h2⟩ := trodAll_cons h
    have := trodAll_length h2
    simp [this.1, this.2]

/-- All arguments read behind the call as they did. -/
theorem below_trodAll {H : Type} {enc : TypeId × Value → H} {W W' : World} (hB : Below W.heap.size W W') :
    ∀ {ts : List TypeId} {vs : List Value} {ds : List (DataW H)} {p : List MemPlace}, DataW.TrodAll enc Tryd.prog W 0 (fun _ => true) true ts vs ds p →
      (∀ t ∈ ts, Tryd.prog.readableRec t = true ∧ t < Tryd.prog.types.size) → (∀ x ∈ p, x.block < W.heap.size) → DataW.TrodAll enc Tryd.prog W' 0 (fun b => decide (b < W.heap.size)) true ts vs ds p
  | [], _, _, _, h, _, _ => by
    obtain ⟨rfl, rfl, rfl⟩ := trodAll_nil h
    exact h
  | t :: _, _, _, _, h, hr, hlt => by
    obtain ⟨v, vs1, d, ds1, a, b, rfl, rfl, rfl, h1, h2⟩ := trodAll_cons h
    exact ⟨a, b, Below.trod Tryd.laidOut (hr t (.head _)).1 (hr t (.head _)).2 h1 hB (fun x hx => hlt x (List.mem_append_left _ hx)),
      below_trodAll hB h2 (fun t ht => hr t (.tail _ ht)) (fun x hx => hlt x (List.mem_append_right _ hx)), rfl⟩

/-- The table's cell that the walks read. -/
theorem tab4 {W : World} (h : laidMetH Tryd.prog laid3 W) : Tab4 W := (table64 h).cell g64 15 (by decide)

def db32 : List Int := [0, 1, 28, 2, 29, 14, 24, 3, 30, 22, 20, 15, 25, 17, 4, 8, 31, 27, 13, 23, 21, 19, 16, 7, 26, 12, 18, 6, 11, 5, 10, 9]
def tens : List Int := [1, 10, 100, 1000, 10000, 100000, 1000000, 10000000, 100000000, 1000000000, 10000000000, 100000000000, 1000000000000, 10000000000000, 100000000000000, 1000000000000000, 10000000000000000, 100000000000000000, 1000000000000000000, 10000000000000000000]

/-- A block that is laid anew. -/
def laidBlock (h : Array Obj) (b : Nat) (k : IntKind) (l : List Int) : Array Obj := h.modify b fun
  | .cells _ t frozen => .cells (l.map (Value.int k)).toArray t frozen
  | o => o

/-- A world for the witness: the settled one, the tables holding what start-up lays. -/
noncomputable def laidWorld (os : Os) : World :=
  { World.holding Tryd.prog os ⟨#[], #[], []⟩ with heap := laidBlock (laidBlock (laidBlock (World.holding Tryd.prog os ⟨#[], #[], []⟩).heap 1 .u64 tens) 2 .u8 db32) 3 .u8 db64 }

set_option maxRecDepth 100000 in
/-- From the calls to the row's inner form. -/
theorem lift_row {H : Type} {enc : TypeId × Value → H} {os : Os} (started : os.Started) (F : FuncId) (fn : Func) (s : ChangeSpec) (Fi : Stop.Interp)
    (noInit : Tryd.checked.prog.inits.idxOf? F = none) (hfn : Tryd.checked.prog.funcs[F]? = some fn) (hrt : fn.resultTypes = #[4]) (hvars : s.vars = [])
    (hpar : ∀ t ∈ fn.params.toList, Tryd.prog.readableRec t = true ∧ t < Tryd.prog.types.size)
    (hspec : ∀ ds : List (DataW H), ds.length = fn.params.toList.length → s.fn H ds = { results := [.lit (.bool true)], args := ds })
    (witness : ∃ (w : World) (tape : Tape) (i : Input), w.os = os ∧ (w.forCall tape i).Shaped Tryd.checked.prog ∧ i.vars = [] ∧ Input.okWide Tryd.checked.prog (w.forCall tape i) .any w.heap.size F i ∧
      (OpenSpec.ofChange s).preRow enc Tryd.checked.prog fn [] false laid3 (w.forCall tape i).memory i.args ∧ ({} : Assume).holds Tryd.checked.prog (lone (Frame.enter Tryd.checked.prog F i.args .normal) [] (w.forCall tape i)))
    (hcall : ∀ (W : World) (base : Nat) (args : Array Value) (ds : List (DataW H)) (p : List MemPlace), (∀ (j : Nat) t v, fn.params[j]? = some t → args[j]? = some v → Value.okWide Tryd.prog W .any base t v) →
      DataW.TrodAll enc Tryd.prog W 0 (fun _ => true) true fn.params.toList args.toList ds p → (∀ x ∈ p, x.block < W.heap.size) → Tab4 W → laidMetH Tryd.prog laid3 W →
      Calls Tryd.prog F args W fun e W' => e = .returned (.bool true) ∧ Below W.heap.size W W') :
    ReturnsInHanded {} Tryd.checked os F .any ((OpenSpec.ofChange s).preRow enc Tryd.prog fn [] false laid3) (((OpenSpec.ofChange s).at Fi).post enc Tryd.prog fn false true false false) := by
  refine returnsInHanded_of_row (C := Tryd.checked) (s := OpenSpec.ofChange s) Tryd.own started noInit hfn witness ?_
  intro W base args ds gs before hval hW _ _ _ hL _ _
  have hW' := hW
  obtain ⟨p, q, hA, hV, rfl, _, _⟩ := hW
  rw [show (OpenSpec.ofChange s).vars = [] from hvars] at hV
  obtain ⟨rfl, rfl⟩ := trodVars_none hV
  simp only [List.append_nil] at hW'
  have hlt : ∀ x ∈ p, x.block < W.heap.size := fun x hx => by simpa using hW'.lt x hx
  refine (hcall W base args ds p hval hA hlt (tab4 hL) hL).mono fun e W' ⟨he, hB⟩ => ⟨_, he, ds, [], p, [], p, [], hW', ?_, ?_, ?_, ?_, fun h => by cases h⟩
  · rw [hrt, List.append_nil]
    show DataW.TrodAll _ _ _ _ _ _ _ _ (s.fn H ds).results _
    rw [hspec ds (trodAll_length hA).1]
    exact trodAll_mk1 (shut_bool (P := Tryd.prog) Tryd.underlying4 true)
  · rw [List.append_nil]
    show DataW.TrodAll _ _ _ _ _ _ _ _ (s.fn H ds).args _
    rw [hspec ds (trodAll_length hA).1]
    exact below_trodAll hB hA hpar hlt
  · show DataW.TrodVars _ _ _ _ s.vars (s.fn H (ds ++ [])).vars _
    rw [hvars, List.append_nil, hspec ds (trodAll_length hA).1]
    exact rfl
  · exact hB.frame _

end Go.Proofs.YtlpifchimnnfdaaDoor
