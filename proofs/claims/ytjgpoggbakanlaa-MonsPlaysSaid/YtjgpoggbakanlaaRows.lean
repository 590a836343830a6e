/-
  No cell of these rows narrows 'for every input' (looked for: loops, veiled, ifaces, maps, wideKeys, modest, calm, conditions, laid).
  DERIVED. THE GIVEN ROWS OF THIS SEAT. 3 by the template 'for every input the law returns true; each argument reads behind the call as it read before'; 0 by the template 'total and deterministic' (their statements: YtjgpoggbakanlaaTotals.lean).
  GIVEN WITH THE SEED: the statements are not yours to turn. If you find one false, say at which input.
  Laid BY PROGRAM, IN A SANDBOX (cutbox-rows.mjs): the forced cells as the released guide's own fill.sh prints them over the translation 00ca1a5c27633882… (all of the seat's roots in one cut). By AI agents, Wed Nov 11 2026. No macro, syntax, notation, axiom, sorry.
-/
import Derived.Test.YtjgpoggbakanlaaChecked
import GoSem.Claim
import GoSem.ClaimJoined
import GoSem.ClaimMapViews
import Derived.JoinedTies
import Derived.KernelRfl
namespace Go.Proofs.Ytjgpoggbakanlaa
/- THE CELL 'sum', in the pinned program and in every row, IS THE sha256 OF THE DUMP (.gsa) THAT YtjgpoggbakanlaaProg.lean LOADS. Nothing in Lean hashes anything: it is a label: what it is worth is what the hold of that sum in a sandbox is worth. -/
noncomputable def Try.pinned : Pinned := { name := "ytjgpoggbakanlaa", sum := "00ca1a5c27633882958b00d1b106fa5d44a2f93fd9d6dfdb7b1f43dd959693e8", checked := Try.checked }
namespace Rows
def none {H : Type} : Left H := { results := [], args := [] }

/-- 'exitwavelaw15.MonsOnce': WHATEVER THE INPUT: true; the input reads as it did. -/
def monsOnceSpec : ChangeSpec := { name := "monsOnce", fn := fun _ => fun
  | [d1, d2] => { results := [.lit (.bool true)], args := [d1, d2] }
  | _ => none }
def monsOnceRow : OpenClaim := { program := "ytjgpoggbakanlaa", sum := "00ca1a5c27633882958b00d1b106fa5d44a2f93fd9d6dfdb7b1f43dd959693e8", func := "exitwave/exitwavelaw15.MonsOnce", spec := "monsOnce", unfollowed := true, recurses := true, plainKeys := false, apart := false }
def MonsOnceSaid : Prop := monsOnceRow.holds Try.pinned (OpenSpec.ofChange monsOnceSpec)

/-- ITS FALSE NEIGHBOUR: 'it returns false'. Refute it at one input. -/
def monsOnceWrong : ChangeSpec := { name := "monsOnce", fn := fun _ => fun
  | [d1, d2] => { results := [.lit (.bool false)], args := [d1, d2] }
  | _ => none }
def MonsOnceWrongFalsely : Prop := monsOnceRow.holds Try.pinned (OpenSpec.ofChange monsOnceWrong)

/-- 'exitwavelaw15.MonsPlays': WHATEVER THE INPUT: true; the input reads as it did. -/
def monsPlaysSpec : ChangeSpec := { name := "monsPlays", fn := fun _ => fun
  | [d] => { results := [.lit (.bool true)], args := [d] }
  | _ => none }
def monsPlaysRow : OpenClaim := { program := "ytjgpoggbakanlaa", sum := "00ca1a5c27633882958b00d1b106fa5d44a2f93fd9d6dfdb7b1f43dd959693e8", func := "exitwave/exitwavelaw15.MonsPlays", spec := "monsPlays", unfollowed := true, recurses := true, plainKeys := false, apart := false }
def MonsPlaysSaid : Prop := monsPlaysRow.holds Try.pinned (OpenSpec.ofChange monsPlaysSpec)

/-- ITS FALSE NEIGHBOUR: 'it returns false'. Refute it at one input. -/
def monsPlaysWrong : ChangeSpec := { name := "monsPlays", fn := fun _ => fun
  | [d] => { results := [.lit (.bool false)], args := [d] }
  | _ => none }
def MonsPlaysWrongFalsely : Prop := monsPlaysRow.holds Try.pinned (OpenSpec.ofChange monsPlaysWrong)

/-- 'exitwavelaw15.MonsDown': WHATEVER THE INPUT: true; the input reads as it did. -/
def monsDownSpec : ChangeSpec := { name := "monsDown", fn := fun _ => fun
  | [d] => { results := [.lit (.bool true)], args := [d] }
  | _ => none }
def monsDownRow : OpenClaim := { program := "ytjgpoggbakanlaa", sum := "00ca1a5c27633882958b00d1b106fa5d44a2f93fd9d6dfdb7b1f43dd959693e8", func := "exitwave/exitwavelaw15.MonsDown", spec := "monsDown", inPlace := ["math.Float64bits", "math.Float64frombits"], unfollowed := true, recurses := true, plainKeys := false, apart := false }
def MonsDownSaid : Prop := monsDownRow.holds Try.pinned (OpenSpec.ofChange monsDownSpec)

/-- ITS FALSE NEIGHBOUR: 'it returns false'. Refute it at one input. -/
def monsDownWrong : ChangeSpec := { name := "monsDown", fn := fun _ => fun
  | [d] => { results := [.lit (.bool false)], args := [d] }
  | _ => none }
def MonsDownWrongFalsely : Prop := monsDownRow.holds Try.pinned (OpenSpec.ofChange monsDownWrong)

/- THE SECOND FORM. 'bulk': how many values and letters a reading holds, each counted each time it is reached (what is shared counts as often as it is met; a slice's spare places count too). A statement '..UptoSaid' is the law's where the arguments, and the package variables that the reading takes, are together of bulk at most 1048576: NARROWER than '..Said'. Prove '..Said' where nothing that the law and all that it calls make is longer than what came in: it says more and counts as full. Else prove '..UptoSaid'. A law counts once. -/
mutual
def uptoBulk {H : Type} : DataW H → Nat
  | .lit (.string bytes) => bytes.length + 1
  | .lit _ => 1
  | .nil => 1
  | .ptr d => uptoBulk d + 1
  | .slice elems spare => uptoBulkAll elems + uptoBulkAll spare + 1
  | .agg parts => uptoBulkAll parts + 1
  | .iface _ d => uptoBulk d + 1
  | .map entries => uptoBulkEntries entries + 1
  | .held _ => 1
def uptoBulkAll {H : Type} : List (DataW H) → Nat
  | [] => 0
  | d :: r => uptoBulk d + uptoBulkAll r
def uptoBulkEntries {H : Type} : List (Lit × DataW H) → Nat
  | [] => 0
  | x :: r => uptoBulkEntry x + uptoBulkEntries r
def uptoBulkEntry {H : Type} : Lit × DataW H → Nat
  | (.string bytes, d) => bytes.length + uptoBulk d + 1
  | (_, d) => uptoBulk d + 1
 end
def uptoSmall : (H : Type) → List (DataW H) → Bool := fun _ ds => decide (uptoBulkAll ds ≤ 1048576)
def OpenSpec.upto (s : _root_.Go.ChangeSpec) : _root_.Go.OpenSpec := { _root_.Go.OpenSpec.ofChange s with cond := some uptoSmall }

/-- 'exitwavelaw15.MonsOnce', WHERE WHAT IT READS IS OF BULK AT MOST 1048576: true; the input reads as it did. -/
def monsOnceUptoRow : OpenClaim := { program := "ytjgpoggbakanlaa", sum := "00ca1a5c27633882958b00d1b106fa5d44a2f93fd9d6dfdb7b1f43dd959693e8", func := "exitwave/exitwavelaw15.MonsOnce", spec := "monsOnce", unfollowed := true, recurses := true, plainKeys := false, apart := false, narrowed := true }
def MonsOnceUptoSaid : Prop := monsOnceUptoRow.holds Try.pinned (OpenSpec.upto monsOnceSpec)

/-- 'exitwavelaw15.MonsPlays', WHERE WHAT IT READS IS OF BULK AT MOST 1048576: true; the input reads as it did. -/
def monsPlaysUptoRow : OpenClaim := { program := "ytjgpoggbakanlaa", sum := "00ca1a5c27633882958b00d1b106fa5d44a2f93fd9d6dfdb7b1f43dd959693e8", func := "exitwave/exitwavelaw15.MonsPlays", spec := "monsPlays", unfollowed := true, recurses := true, plainKeys := false, apart := false, narrowed := true }
def MonsPlaysUptoSaid : Prop := monsPlaysUptoRow.holds Try.pinned (OpenSpec.upto monsPlaysSpec)

/-- 'exitwavelaw15.MonsDown', WHERE WHAT IT READS IS OF BULK AT MOST 1048576: true; the input reads as it did. -/
def monsDownUptoRow : OpenClaim := { program := "ytjgpoggbakanlaa", sum := "00ca1a5c27633882958b00d1b106fa5d44a2f93fd9d6dfdb7b1f43dd959693e8", func := "exitwave/exitwavelaw15.MonsDown", spec := "monsDown", inPlace := ["math.Float64bits", "math.Float64frombits"], unfollowed := true, recurses := true, plainKeys := false, apart := false, narrowed := true }
def MonsDownUptoSaid : Prop := monsDownUptoRow.holds Try.pinned (OpenSpec.upto monsDownSpec)

end Rows
end Go.Proofs.Ytjgpoggbakanlaa
