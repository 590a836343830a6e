/- What every law's row wants of the program: from 'each call answers true and leaves what was there as it was' to the row. -/
import Derived.Test.YtdimmomjildpcaaRows
import Derived.ProofKit
import Derived.SizedLaws
import Derived.HandedShaped
namespace Go.Proofs.Ytdimmomjildpcaa
open Go.ChangeShapes Go.WideShapes Go.ChangeAt Go.RowKit

theorem Try.own : ownKnob Try.prog.godebug = none := by kernel_rfl
theorem Try.laidOut : laidOutB Try.prog = true := by kernel_rfl

theorem range_u64 {a : Int} (h : (Lit.int .u64 a).wf = true) : 0 ≤ a ∧ a < 18446744073709551616 := by
  simp [Lit.wf, IntKind.min, IntKind.max, IntKind.signed, IntKind.bits] at h
  omega

theorem range_i64 {a : Int} (h : (Lit.int .i64 a).wf = true) : -9223372036854775808 ≤ a ∧ a ≤ 9223372036854775807 := by
  simp [Lit.wf, IntKind.min, IntKind.max, IntKind.signed, IntKind.bits] at h
  omega

theorem trodAll_length {H : Type} {enc : TypeId × Value → H} {P : Program} {w : World} {base : Nat} {spare : Nat → Bool} {held : Bool} :
    ∀ {ts : List TypeId} {vs : List Value} {ds : List (DataW H)} {p : List MemPlace}, DataW.TrodAll enc P w base spare held ts vs ds p → ds.length = ts.length ∧ vs.length = ts.length
  | [], _, _, _, h => by
    obtain ⟨rfl, rfl, rfl⟩ := trodAll_nil h
    exact ⟨rfl, rfl⟩
  | _ :: _, _, _, _, h => by
    obtain ⟨v, vs1, d, ds1, a, b, rfl, rfl, rfl, h1, h2⟩ := trodAll_cons h
    have := trodAll_length h2
    simp [this.1, this.2]

/-- All arguments read behind the call as they did. -/
theorem below_trodAll {H : Type} {enc : TypeId × Value → H} {W W' : World} (hB : Below W.heap.size W W') :
    ∀ {ts : List TypeId} {vs : List Value} {ds : List (DataW H)} {p : List MemPlace}, DataW.TrodAll enc Try.prog W 0 (fun _ => true) true ts vs ds p →
      (∀ t ∈ ts, Try.prog.readableRec t = true ∧ t < Try.prog.types.size) → (∀ x ∈ p, x.block < W.heap.size) → DataW.TrodAll enc Try.prog W' 0 (fun b => decide (b < W.heap.size)) true ts vs ds p
  | [], _, _, _, h, _, _ => by
    obtain ⟨rfl, rfl, rfl⟩ := trodAll_nil h
    exact h
  | t :: _, _, _, _, h, hr, hlt => by
    obtain ⟨v, vs1, d, ds1, a, b, rfl, rfl, rfl, h1, h2⟩ := trodAll_cons h
    exact ⟨a, b, Below.trod Try.laidOut (hr t (.head _)).1 (hr t (.head _)).2 h1 hB (fun x hx => hlt x (List.mem_append_left _ hx)),
      below_trodAll hB h2 (fun t ht => hr t (.tail _ ht)) (fun x hx => hlt x (List.mem_append_right _ hx)), rfl⟩

set_option maxRecDepth 100000 in
/-- From the calls to the row's inner form. -/
theorem lift_law {H : Type} {enc : TypeId × Value → H} {os : Os} (started : os.Started) (F : FuncId) (fn : Func) (s : ChangeSpec)
    (noInit : Try.checked.prog.inits.idxOf? F = none) (hfn : Try.checked.prog.funcs[F]? = some fn) (hrt : fn.resultTypes = #[4]) (hvars : s.vars = [])
    (hpar : ∀ t ∈ fn.params.toList, Try.prog.readableRec t = true ∧ t < Try.prog.types.size)
    (hspec : ∀ ds : List (DataW H), ds.length = fn.params.toList.length → s.fn H ds = { results := [.lit (.bool true)], args := ds })
    (witness : ∃ (w : World) (tape : Tape) (i : Input), w.os = os ∧ (w.forCall tape i).Shaped Try.checked.prog ∧ i.vars = [] ∧ Input.okWide Try.checked.prog (w.forCall tape i) .any w.heap.size F i ∧
      s.pre6 enc Try.checked.prog fn [] false (w.forCall tape i).memory i.args ∧ ({} : Assume).holds Try.checked.prog (lone (Frame.enter Try.checked.prog F i.args .normal) [] (w.forCall tape i)))
    (hcall : ∀ (W : World) (base : Nat) (args : Array Value) (ds : List (DataW H)) (p : List MemPlace), (∀ (j : Nat) t v, fn.params[j]? = some t → args[j]? = some v → Value.okWide Try.prog W .any base t v) →
      DataW.TrodAll enc Try.prog W 0 (fun _ => true) true fn.params.toList args.toList ds p → (DataW.weightsEach Try.prog fn.params.toList ds).all (· ≤ reachBytes) = true →
      (∀ x ∈ p, x.block < W.heap.size) →
      Calls Try.prog F args W fun e W' => e = .returned (.bool true) ∧ Below W.heap.size W W') :
    ReturnsInHanded {} Try.checked os F .any (s.pre6 enc Try.checked.prog fn [] false) (s.post enc Try.checked.prog fn false true false false) := by
  refine returnsInHanded_of_change_sized (C := Try.checked) Try.own started noInit hfn witness ?_
  intro W base args ds gs before hval hW _ hwt _
  have hW' := hW
  obtain ⟨p, q, hA, hV, rfl, _, _⟩ := hW
  rw [hvars] at hV
  obtain ⟨rfl, rfl⟩ := trodVars_none hV
  simp only [List.append_nil] at hW' hwt
  have hlt : ∀ x ∈ p, x.block < W.heap.size := fun x hx => by simpa using hW'.lt x hx
  have hwt' : (DataW.weightsEach Try.prog fn.params.toList ds).all (· ≤ reachBytes) = true := by
    have e : s.plain.varTypes Try.checked.prog = [] := by simp [ChangeSpec.plain, DataSpec.varTypes, hvars]
    rw [e, List.append_nil] at hwt
    exact hwt
  refine (hcall W base args ds p hval hA hwt' hlt).mono fun e W' ⟨he, hB⟩ => ⟨_, he, ds, [], p, [], p, [], hW', ?_, ?_, ?_, ?_, fun h => by cases h⟩
  · rw [hrt, List.append_nil, hspec ds (trodAll_length hA).1]
    exact trodAll_mk1 (shut_bool (P := Try.prog) Try.underlying4 true)
  · rw [List.append_nil, hspec ds (trodAll_length hA).1]
    exact below_trodAll hB hA hpar hlt
  · rw [hvars, List.append_nil, hspec ds (trodAll_length hA).1]
    exact rfl
  · exact hB.frame _

end Go.Proofs.Ytdimmomjildpcaa
