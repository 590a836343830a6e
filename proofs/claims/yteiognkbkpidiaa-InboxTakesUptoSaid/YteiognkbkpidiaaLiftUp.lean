/- The second form: from 'each call on small arguments answers true and leaves what was there as it was' to the row. -/
import Derived.Test.YteiognkbkpidiaaLift
import Derived.JoinedCond
namespace Go.Proofs.Yteiognkbkpidiaa
open Go.ChangeShapes Go.WideShapes Go.ChangeAt Go.RowKit

set_option maxRecDepth 100000 in
/-- From the calls to the row's inner form. -/
theorem lift_upto {H : Type} {enc : TypeId × Value → H} {os : Os} {Fi : Stop.Interp} (started : os.Started) (F : FuncId) (fn : Func) (s : ChangeSpec)
    (noInit : Try.checked.prog.inits.idxOf? F = none) (hfn : Try.checked.prog.funcs[F]? = some fn) (hrt : fn.resultTypes = #[4]) (hvars : s.vars = [])
    (hpar : ∀ t ∈ fn.params.toList, Try.prog.readableRec t = true ∧ t < Try.prog.types.size)
    (hspec : ∀ ds : List (DataW H), ds.length = fn.params.toList.length → s.fn H ds = { results := [.lit (.bool true)], args := ds })
    (witness : ∃ (w : World) (tape : Tape) (i : Input), w.os = os ∧ (w.forCall tape i).Shaped Try.checked.prog ∧ i.vars = [] ∧ Input.okWide Try.checked.prog (w.forCall tape i) .any w.heap.size F i ∧
      (Rows.OpenSpec.upto s).pre6 enc Try.checked.prog fn [] false (w.forCall tape i).memory i.args ∧ ({} : Assume).holds Try.checked.prog (lone (Frame.enter Try.checked.prog F i.args .normal) [] (w.forCall tape i)))
    (hcall : ∀ (W : World) (base : Nat) (args : Array Value) (ds : List (DataW H)) (p : List MemPlace), (∀ (j : Nat) t v, fn.params[j]? = some t → args[j]? = some v → Value.okWide Try.prog W .any base t v) →
      DataW.TrodAll enc Try.prog W 0 (fun _ => true) true fn.params.toList args.toList ds p → Rows.uptoBulkAll ds ≤ 1048576 →
      (∀ x ∈ p, x.block < W.heap.size) →
      Calls Try.prog F args W fun e W' => e = .returned (.bool true) ∧ Below W.heap.size W W') :
    ReturnsInHanded {} Try.checked os F .any ((Rows.OpenSpec.upto s).pre6 enc Try.checked.prog fn [] false) (((Rows.OpenSpec.upto s).at Fi).post enc Try.checked.prog fn false true false false) := by
  refine returnsInHanded_of_cond (C := Try.checked) (s := Rows.OpenSpec.upto s) (k := Rows.uptoSmall) rfl Try.own started noInit hfn witness ?_
  intro W base args ds gs before hval hW _ hk _
  have hW' : DataW.Whole enc Try.checked.prog fn.params.toList s.vars false W args.toList ds gs before := hW
  have hW2 := hW'
  obtain ⟨p, q, hA, hV, rfl, _, _⟩ := hW'
  rw [hvars] at hV
  obtain ⟨rfl, rfl⟩ := trodVars_none hV
  simp only [List.append_nil] at hW2 hk
  have hlt : ∀ x ∈ p, x.block < W.heap.size := fun x hx => by simpa using hW2.lt x hx
  have hbk : Rows.uptoBulkAll ds ≤ 1048576 := of_decide_eq_true hk
  refine (hcall W base args ds p hval hA hbk hlt).mono fun e W' ⟨he, hB⟩ => ⟨_, he, ?_⟩
  show s.post enc Try.checked.prog fn false true false false W args _ W'
  refine ⟨ds, [], p, [], p, [], hW2, ?_, ?_, ?_, ?_, fun h => by cases h⟩
  · rw [hrt, List.append_nil, hspec ds (trodAll_length hA).1]
    exact trodAll_mk1 (shut_bool (P := Try.prog) Try.underlying4 true)
  · rw [List.append_nil, hspec ds (trodAll_length hA).1]
    exact below_trodAll hB hA hpar hlt
  · rw [hvars, List.append_nil, hspec ds (trodAll_length hA).1]
    exact rfl
  · exact hB.frame _

end Go.Proofs.Yteiognkbkpidiaa
