/-
  NARROWER THAN 'FOR EVERY INPUT', by the rows' own cells (each row's printed sentence says how): InboxTakes: loops · InboxOwn: loops · InboxPlays: loops.
  DERIVED. THE GIVEN ROWS OF THIS SEAT. 3 by the template 'for every input the law returns true; each argument reads behind the call as it read before'; 0 by the template 'total and deterministic' (their statements: YteiognkbkpidiaaTotals.lean).
  GIVEN WITH THE SEED: the statements are not yours to turn. If you find one false, say at which input.
  Laid BY PROGRAM, IN A SANDBOX (cutbox-rows.mjs): the forced cells as the released guide's own fill.sh prints them over the translation e3c0649cedd37111… (all of the seat's roots in one cut). By AI agents, Wed Nov 11 2026. No macro, syntax, notation, axiom, sorry.
-/
import Derived.Test.YteiognkbkpidiaaChecked
import GoSem.Claim
import GoSem.ClaimJoined
import GoSem.ClaimMapViews
import Derived.JoinedTies
import Derived.KernelRfl
namespace Go.Proofs.Yteiognkbkpidiaa
/- THE CELL 'sum', in the pinned program and in every row, IS THE sha256 OF THE DUMP (.gsa) THAT YteiognkbkpidiaaProg.lean LOADS. Nothing in Lean hashes anything: it is a label: what it is worth is what the hold of that sum in a sandbox is worth. -/
noncomputable def Try.pinned : Pinned := { name := "yteiognkbkpidiaa", sum := "e3c0649cedd37111f40cdc1c777692aa2ad901b0a37ca3a9d6c65a493f40936b", checked := Try.checked }
namespace Rows
def none {H : Type} : Left H := { results := [], args := [] }

/-- 'exitwavelaw12.InboxTakes': WHATEVER THE INPUT: true; the input reads as it did. -/
def inboxTakesSpec : ChangeSpec := { name := "inboxTakes", fn := fun _ => fun
  | [d1, d2] => { results := [.lit (.bool true)], args := [d1, d2] }
  | _ => none }
def inboxTakesRow : OpenClaim := { program := "yteiognkbkpidiaa", sum := "e3c0649cedd37111f40cdc1c777692aa2ad901b0a37ca3a9d6c65a493f40936b", func := "exitwave/exitwavelaw12.InboxTakes", spec := "inboxTakes", inPlace := ["math.Float64bits", "math.Float64frombits"], recurses := true, loops := true, apart := false }
def InboxTakesSaid : Prop := inboxTakesRow.holds Try.pinned (OpenSpec.ofChange inboxTakesSpec)

/-- ITS FALSE NEIGHBOUR: 'it returns false'. Refute it at one input. -/
def inboxTakesWrong : ChangeSpec := { name := "inboxTakes", fn := fun _ => fun
  | [d1, d2] => { results := [.lit (.bool false)], args := [d1, d2] }
  | _ => none }
def InboxTakesWrongFalsely : Prop := inboxTakesRow.holds Try.pinned (OpenSpec.ofChange inboxTakesWrong)

/-- 'exitwavelaw12.InboxOwn': WHATEVER THE INPUT: true; the input reads as it did. -/
def inboxOwnSpec : ChangeSpec := { name := "inboxOwn", fn := fun _ => fun
  | [d1, d2] => { results := [.lit (.bool true)], args := [d1, d2] }
  | _ => none }
def inboxOwnRow : OpenClaim := { program := "yteiognkbkpidiaa", sum := "e3c0649cedd37111f40cdc1c777692aa2ad901b0a37ca3a9d6c65a493f40936b", func := "exitwave/exitwavelaw12.InboxOwn", spec := "inboxOwn", inPlace := ["math.Float64bits", "math.Float64frombits"], unfollowed := true, recurses := true, loops := true, apart := false }
def InboxOwnSaid : Prop := inboxOwnRow.holds Try.pinned (OpenSpec.ofChange inboxOwnSpec)

/-- ITS FALSE NEIGHBOUR: 'it returns false'. Refute it at one input. -/
def inboxOwnWrong : ChangeSpec := { name := "inboxOwn", fn := fun _ => fun
  | [d1, d2] => { results := [.lit (.bool false)], args := [d1, d2] }
  | _ => none }
def InboxOwnWrongFalsely : Prop := inboxOwnRow.holds Try.pinned (OpenSpec.ofChange inboxOwnWrong)

/-- 'exitwavelaw12.InboxPlays': WHATEVER THE INPUT: true; the input reads as it did. -/
def inboxPlaysSpec : ChangeSpec := { name := "inboxPlays", fn := fun _ => fun
  | [d1, d2] => { results := [.lit (.bool true)], args := [d1, d2] }
  | _ => none }
def inboxPlaysRow : OpenClaim := { program := "yteiognkbkpidiaa", sum := "e3c0649cedd37111f40cdc1c777692aa2ad901b0a37ca3a9d6c65a493f40936b", func := "exitwave/exitwavelaw12.InboxPlays", spec := "inboxPlays", inPlace := ["math.Float64bits", "math.Float64frombits"], unfollowed := true, recurses := true, loops := true, apart := false }
def InboxPlaysSaid : Prop := inboxPlaysRow.holds Try.pinned (OpenSpec.ofChange inboxPlaysSpec)

/-- ITS FALSE NEIGHBOUR: 'it returns false'. Refute it at one input. -/
def inboxPlaysWrong : ChangeSpec := { name := "inboxPlays", fn := fun _ => fun
  | [d1, d2] => { results := [.lit (.bool false)], args := [d1, d2] }
  | _ => none }
def InboxPlaysWrongFalsely : Prop := inboxPlaysRow.holds Try.pinned (OpenSpec.ofChange inboxPlaysWrong)

/- THE SECOND FORM. 'bulk': how many values and letters a reading holds, each counted each time it is reached (what is shared counts as often as it is met; a slice's spare places count too). A statement '..UptoSaid' is the law's where the arguments, and the package variables that the reading takes, are together of bulk at most 1048576: NARROWER than '..Said'. Prove '..Said' where nothing that the law and all that it calls make is longer than what came in: it says more and counts as full. Else prove '..UptoSaid'. A law counts once. -/
mutual
def uptoBulk {H : Type} : DataW H → Nat
  | .lit (.string bytes) => bytes.length + 1
  | .lit _ => 1
  | .nil => 1
  | .ptr d => uptoBulk d + 1
  | .slice elems spare => uptoBulkAll elems + uptoBulkAll spare + 1
  | .agg parts => uptoBulkAll parts + 1
  | .iface _ d => uptoBulk d + 1
  | .map entries => uptoBulkEntries entries + 1
  | .held _ => 1
def uptoBulkAll {H : Type} : List (DataW H) → Nat
  | [] => 0
  | d :: r => uptoBulk d + uptoBulkAll r
def uptoBulkEntries {H : Type} : List (Lit × DataW H) → Nat
  | [] => 0
  | x :: r => uptoBulkEntry x + uptoBulkEntries r
def uptoBulkEntry {H : Type} : Lit × DataW H → Nat
  | (.string bytes, d) => bytes.length + uptoBulk d + 1
  | (_, d) => uptoBulk d + 1
 end
def uptoSmall : (H : Type) → List (DataW H) → Bool := fun _ ds => decide (uptoBulkAll ds ≤ 1048576)
def OpenSpec.upto (s : _root_.Go.ChangeSpec) : _root_.Go.OpenSpec := { _root_.Go.OpenSpec.ofChange s with cond := some uptoSmall }

/-- 'exitwavelaw12.InboxTakes', WHERE WHAT IT READS IS OF BULK AT MOST 1048576: true; the input reads as it did. -/
def inboxTakesUptoRow : OpenClaim := { program := "yteiognkbkpidiaa", sum := "e3c0649cedd37111f40cdc1c777692aa2ad901b0a37ca3a9d6c65a493f40936b", func := "exitwave/exitwavelaw12.InboxTakes", spec := "inboxTakes", inPlace := ["math.Float64bits", "math.Float64frombits"], recurses := true, loops := true, apart := false, narrowed := true }
def InboxTakesUptoSaid : Prop := inboxTakesUptoRow.holds Try.pinned (OpenSpec.upto inboxTakesSpec)

/-- 'exitwavelaw12.InboxOwn', WHERE WHAT IT READS IS OF BULK AT MOST 1048576: true; the input reads as it did. -/
def inboxOwnUptoRow : OpenClaim := { program := "yteiognkbkpidiaa", sum := "e3c0649cedd37111f40cdc1c777692aa2ad901b0a37ca3a9d6c65a493f40936b", func := "exitwave/exitwavelaw12.InboxOwn", spec := "inboxOwn", inPlace := ["math.Float64bits", "math.Float64frombits"], unfollowed := true, recurses := true, loops := true, apart := false, narrowed := true }
def InboxOwnUptoSaid : Prop := inboxOwnUptoRow.holds Try.pinned (OpenSpec.upto inboxOwnSpec)

/-- 'exitwavelaw12.InboxPlays', WHERE WHAT IT READS IS OF BULK AT MOST 1048576: true; the input reads as it did. -/
def inboxPlaysUptoRow : OpenClaim := { program := "yteiognkbkpidiaa", sum := "e3c0649cedd37111f40cdc1c777692aa2ad901b0a37ca3a9d6c65a493f40936b", func := "exitwave/exitwavelaw12.InboxPlays", spec := "inboxPlays", inPlace := ["math.Float64bits", "math.Float64frombits"], unfollowed := true, recurses := true, loops := true, apart := false, narrowed := true }
def InboxPlaysUptoSaid : Prop := inboxPlaysUptoRow.holds Try.pinned (OpenSpec.upto inboxPlaysSpec)

end Rows
end Go.Proofs.Yteiognkbkpidiaa
