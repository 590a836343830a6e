/-
  NARROWER THAN 'FOR EVERY INPUT', by the rows' own cells (each row's printed sentence says how): ExitsDead: loops · ExitsOnce: loops · ExitsKills: loops.
  DERIVED. THE GIVEN ROWS OF THIS SEAT. 3 by the template 'for every input the law returns true; each argument reads behind the call as it read before'; 0 by the template 'total and deterministic' (their statements: YtdimmomjildpcaaTotals.lean).
  GIVEN WITH THE SEED: the statements are not yours to turn. If you find one false, say at which input.
  Laid BY PROGRAM, IN A SANDBOX (cutbox-rows.mjs): the forced cells as the released guide's own fill.sh prints them over the translation 86353697d7a41fac… (all of the seat's roots in one cut). By AI agents, Wed Nov 11 2026. No macro, syntax, notation, axiom, sorry.
-/
import Derived.Test.YtdimmomjildpcaaChecked
import GoSem.Claim
import GoSem.ClaimJoined
import GoSem.ClaimMapViews
import Derived.JoinedTies
import Derived.KernelRfl
namespace Go.Proofs.Ytdimmomjildpcaa
/- THE CELL 'sum', in the pinned program and in every row, IS THE sha256 OF THE DUMP (.gsa) THAT YtdimmomjildpcaaProg.lean LOADS. Nothing in Lean hashes anything: it is a label: what it is worth is what the hold of that sum in a sandbox is worth. -/
noncomputable def Try.pinned : Pinned := { name := "ytdimmomjildpcaa", sum := "86353697d7a41facc2b2918c1816905e80e080020bc662ccb66afc87ad83f2cc", checked := Try.checked }
namespace Rows
def none {H : Type} : Left H := { results := [], args := [] }

/-- 'exitwavelaw16.ExitsDead': WHATEVER THE INPUT: true; the input reads as it did. -/
def exitsDeadSpec : ChangeSpec := { name := "exitsDead", fn := fun _ => fun
  | [d] => { results := [.lit (.bool true)], args := [d] }
  | _ => none }
def exitsDeadRow : OpenClaim := { program := "ytdimmomjildpcaa", sum := "86353697d7a41facc2b2918c1816905e80e080020bc662ccb66afc87ad83f2cc", func := "exitwave/exitwavelaw16.ExitsDead", spec := "exitsDead", inPlace := ["math.Float64bits", "math.Float64frombits"], recurses := true, loops := true, apart := false }
def ExitsDeadSaid : Prop := exitsDeadRow.holds Try.pinned (OpenSpec.ofChange exitsDeadSpec)

/-- ITS FALSE NEIGHBOUR: 'it returns false'. Refute it at one input. -/
def exitsDeadWrong : ChangeSpec := { name := "exitsDead", fn := fun _ => fun
  | [d] => { results := [.lit (.bool false)], args := [d] }
  | _ => none }
def ExitsDeadWrongFalsely : Prop := exitsDeadRow.holds Try.pinned (OpenSpec.ofChange exitsDeadWrong)

/-- 'exitwavelaw16.ExitsOnce': WHATEVER THE INPUT: true; the input reads as it did. -/
def exitsOnceSpec : ChangeSpec := { name := "exitsOnce", fn := fun _ => fun
  | [d] => { results := [.lit (.bool true)], args := [d] }
  | _ => none }
def exitsOnceRow : OpenClaim := { program := "ytdimmomjildpcaa", sum := "86353697d7a41facc2b2918c1816905e80e080020bc662ccb66afc87ad83f2cc", func := "exitwave/exitwavelaw16.ExitsOnce", spec := "exitsOnce", inPlace := ["math.Float64bits", "math.Float64frombits"], recurses := true, loops := true, apart := false }
def ExitsOnceSaid : Prop := exitsOnceRow.holds Try.pinned (OpenSpec.ofChange exitsOnceSpec)

/-- ITS FALSE NEIGHBOUR: 'it returns false'. Refute it at one input. -/
def exitsOnceWrong : ChangeSpec := { name := "exitsOnce", fn := fun _ => fun
  | [d] => { results := [.lit (.bool false)], args := [d] }
  | _ => none }
def ExitsOnceWrongFalsely : Prop := exitsOnceRow.holds Try.pinned (OpenSpec.ofChange exitsOnceWrong)

/-- 'exitwavelaw16.ExitsKills': WHATEVER THE INPUT: true; the input reads as it did. -/
def exitsKillsSpec : ChangeSpec := { name := "exitsKills", fn := fun _ => fun
  | [d1, d2, d3, d4] => { results := [.lit (.bool true)], args := [d1, d2, d3, d4] }
  | _ => none }
def exitsKillsRow : OpenClaim := { program := "ytdimmomjildpcaa", sum := "86353697d7a41facc2b2918c1816905e80e080020bc662ccb66afc87ad83f2cc", func := "exitwave/exitwavelaw16.ExitsKills", spec := "exitsKills", inPlace := ["math.Float64bits", "math.Float64frombits"], recurses := true, loops := true, apart := false }
def ExitsKillsSaid : Prop := exitsKillsRow.holds Try.pinned (OpenSpec.ofChange exitsKillsSpec)

/-- ITS FALSE NEIGHBOUR: 'it returns false'. Refute it at one input. -/
def exitsKillsWrong : ChangeSpec := { name := "exitsKills", fn := fun _ => fun
  | [d1, d2, d3, d4] => { results := [.lit (.bool false)], args := [d1, d2, d3, d4] }
  | _ => none }
def ExitsKillsWrongFalsely : Prop := exitsKillsRow.holds Try.pinned (OpenSpec.ofChange exitsKillsWrong)

/- THE SECOND FORM. 'bulk': how many values and letters a reading holds, each counted each time it is reached (what is shared counts as often as it is met; a slice's spare places count too). A statement '..UptoSaid' is the law's where the arguments, and the package variables that the reading takes, are together of bulk at most 1048576: NARROWER than '..Said'. Prove '..Said' where nothing that the law and all that it calls make is longer than what came in: it says more and counts as full. Else prove '..UptoSaid'. A law counts once. -/
mutual
def uptoBulk {H : Type} : DataW H → Nat
  | .lit (.string bytes) => bytes.length + 1
  | .lit _ => 1
  | .nil => 1
  | .ptr d => uptoBulk d + 1
  | .slice elems spare => uptoBulkAll elems + uptoBulkAll spare + 1
  | .agg parts => uptoBulkAll parts + 1
  | .iface _ d => uptoBulk d + 1
  | .map entries => uptoBulkEntries entries + 1
  | .held _ => 1
def uptoBulkAll {H : Type} : List (DataW H) → Nat
  | [] => 0
  | d :: r => uptoBulk d + uptoBulkAll r
def uptoBulkEntries {H : Type} : List (Lit × DataW H) → Nat
  | [] => 0
  | x :: r => uptoBulkEntry x + uptoBulkEntries r
def uptoBulkEntry {H : Type} : Lit × DataW H → Nat
  | (.string bytes, d) => bytes.length + uptoBulk d + 1
  | (_, d) => uptoBulk d + 1
 end
def uptoSmall : (H : Type) → List (DataW H) → Bool := fun _ ds => decide (uptoBulkAll ds ≤ 1048576)
def OpenSpec.upto (s : _root_.Go.ChangeSpec) : _root_.Go.OpenSpec := { _root_.Go.OpenSpec.ofChange s with cond := some uptoSmall }

/-- 'exitwavelaw16.ExitsDead', WHERE WHAT IT READS IS OF BULK AT MOST 1048576: true; the input reads as it did. -/
def exitsDeadUptoRow : OpenClaim := { program := "ytdimmomjildpcaa", sum := "86353697d7a41facc2b2918c1816905e80e080020bc662ccb66afc87ad83f2cc", func := "exitwave/exitwavelaw16.ExitsDead", spec := "exitsDead", inPlace := ["math.Float64bits", "math.Float64frombits"], recurses := true, loops := true, apart := false, narrowed := true }
def ExitsDeadUptoSaid : Prop := exitsDeadUptoRow.holds Try.pinned (OpenSpec.upto exitsDeadSpec)

/-- 'exitwavelaw16.ExitsOnce', WHERE WHAT IT READS IS OF BULK AT MOST 1048576: true; the input reads as it did. -/
def exitsOnceUptoRow : OpenClaim := { program := "ytdimmomjildpcaa", sum := "86353697d7a41facc2b2918c1816905e80e080020bc662ccb66afc87ad83f2cc", func := "exitwave/exitwavelaw16.ExitsOnce", spec := "exitsOnce", inPlace := ["math.Float64bits", "math.Float64frombits"], recurses := true, loops := true, apart := false, narrowed := true }
def ExitsOnceUptoSaid : Prop := exitsOnceUptoRow.holds Try.pinned (OpenSpec.upto exitsOnceSpec)

/-- 'exitwavelaw16.ExitsKills', WHERE WHAT IT READS IS OF BULK AT MOST 1048576: true; the input reads as it did. -/
def exitsKillsUptoRow : OpenClaim := { program := "ytdimmomjildpcaa", sum := "86353697d7a41facc2b2918c1816905e80e080020bc662ccb66afc87ad83f2cc", func := "exitwave/exitwavelaw16.ExitsKills", spec := "exitsKills", inPlace := ["math.Float64bits", "math.Float64frombits"], recurses := true, loops := true, apart := false, narrowed := true }
def ExitsKillsUptoSaid : Prop := exitsKillsUptoRow.holds Try.pinned (OpenSpec.upto exitsKillsSpec)

end Rows
end Go.Proofs.Ytdimmomjildpcaa
