/-
  No cell of these rows narrows 'for every input' (looked for: loops, veiled, ifaces, maps, wideKeys, modest, calm, conditions, laid).
  DERIVED. THE GIVEN ROWS OF THIS SEAT. 4 by the template 'for every input the law returns true; each argument reads behind the call as it read before'; 0 by the template 'total and deterministic' (their statements: YtoofhccjjhhipaaTotals.lean).
  GIVEN WITH THE SEED: the statements are not yours to turn. If you find one false, say at which input.
  Laid BY PROGRAM, IN A SANDBOX (cutbox-rows.mjs): the forced cells as the released guide's own fill.sh prints them over the translation ecfcd5ff0192e494… (all of the seat's roots in one cut). By AI agents, Wed Nov 11 2026. No macro, syntax, notation, axiom, sorry.
-/
import Derived.Test.YtoofhccjjhhipaaChecked
import GoSem.Claim
import GoSem.ClaimJoined
import GoSem.ClaimMapViews
import Derived.JoinedTies
import Derived.KernelRfl
namespace Go.Proofs.Ytoofhccjjhhipaa
/- THE CELL 'sum', in the pinned program and in every row, IS THE sha256 OF THE DUMP (.gsa) THAT YtoofhccjjhhipaaProg.lean LOADS. Nothing in Lean hashes anything: it is a label: what it is worth is what the hold of that sum in a sandbox is worth. -/
noncomputable def Try.pinned : Pinned := { name := "ytoofhccjjhhipaa", sum := "ecfcd5ff0192e494f347d971eecbceb8c866aa959656d42dbdeebd5d0043cd89", checked := Try.checked }
namespace Rows
def none {H : Type} : Left H := { results := [], args := [] }

/-- 'exitwavelaw14.LinksDeaf': WHATEVER THE INPUT: true; the input reads as it did. -/
def linksDeafSpec : ChangeSpec := { name := "linksDeaf", fn := fun _ => fun
  | [d1, d2, d3] => { results := [.lit (.bool true)], args := [d1, d2, d3] }
  | _ => none }
def linksDeafRow : OpenClaim := { program := "ytoofhccjjhhipaa", sum := "ecfcd5ff0192e494f347d971eecbceb8c866aa959656d42dbdeebd5d0043cd89", func := "exitwave/exitwavelaw14.LinksDeaf", spec := "linksDeaf", unfollowed := true, recurses := true, plainKeys := false, apart := false }
def LinksDeafSaid : Prop := linksDeafRow.holds Try.pinned (OpenSpec.ofChange linksDeafSpec)

/-- ITS FALSE NEIGHBOUR: 'it returns false'. Refute it at one input. -/
def linksDeafWrong : ChangeSpec := { name := "linksDeaf", fn := fun _ => fun
  | [d1, d2, d3] => { results := [.lit (.bool false)], args := [d1, d2, d3] }
  | _ => none }
def LinksDeafWrongFalsely : Prop := linksDeafRow.holds Try.pinned (OpenSpec.ofChange linksDeafWrong)

/-- 'exitwavelaw14.LinksPlays': WHATEVER THE INPUT: true; the input reads as it did. -/
def linksPlaysSpec : ChangeSpec := { name := "linksPlays", fn := fun _ => fun
  | [d] => { results := [.lit (.bool true)], args := [d] }
  | _ => none }
def linksPlaysRow : OpenClaim := { program := "ytoofhccjjhhipaa", sum := "ecfcd5ff0192e494f347d971eecbceb8c866aa959656d42dbdeebd5d0043cd89", func := "exitwave/exitwavelaw14.LinksPlays", spec := "linksPlays", unfollowed := true, recurses := true, plainKeys := false, apart := false }
def LinksPlaysSaid : Prop := linksPlaysRow.holds Try.pinned (OpenSpec.ofChange linksPlaysSpec)

/-- ITS FALSE NEIGHBOUR: 'it returns false'. Refute it at one input. -/
def linksPlaysWrong : ChangeSpec := { name := "linksPlays", fn := fun _ => fun
  | [d] => { results := [.lit (.bool false)], args := [d] }
  | _ => none }
def LinksPlaysWrongFalsely : Prop := linksPlaysRow.holds Try.pinned (OpenSpec.ofChange linksPlaysWrong)

/-- 'exitwavelaw14.LinksAgree': WHATEVER THE INPUT: true; the input reads as it did. -/
def linksAgreeSpec : ChangeSpec := { name := "linksAgree", fn := fun _ => fun
  | [d1, d2] => { results := [.lit (.bool true)], args := [d1, d2] }
  | _ => none }
def linksAgreeRow : OpenClaim := { program := "ytoofhccjjhhipaa", sum := "ecfcd5ff0192e494f347d971eecbceb8c866aa959656d42dbdeebd5d0043cd89", func := "exitwave/exitwavelaw14.LinksAgree", spec := "linksAgree", inPlace := ["math.Float64bits", "math.Float64frombits"], recurses := true, plainKeys := false, apart := false }
def LinksAgreeSaid : Prop := linksAgreeRow.holds Try.pinned (OpenSpec.ofChange linksAgreeSpec)

/-- ITS FALSE NEIGHBOUR: 'it returns false'. Refute it at one input. -/
def linksAgreeWrong : ChangeSpec := { name := "linksAgree", fn := fun _ => fun
  | [d1, d2] => { results := [.lit (.bool false)], args := [d1, d2] }
  | _ => none }
def LinksAgreeWrongFalsely : Prop := linksAgreeRow.holds Try.pinned (OpenSpec.ofChange linksAgreeWrong)

/-- 'exitwavelaw14.LinksLast': WHATEVER THE INPUT: true; the input reads as it did. -/
def linksLastSpec : ChangeSpec := { name := "linksLast", fn := fun _ => fun
  | [d1, d2, d3] => { results := [.lit (.bool true)], args := [d1, d2, d3] }
  | _ => none }
def linksLastRow : OpenClaim := { program := "ytoofhccjjhhipaa", sum := "ecfcd5ff0192e494f347d971eecbceb8c866aa959656d42dbdeebd5d0043cd89", func := "exitwave/exitwavelaw14.LinksLast", spec := "linksLast", inPlace := ["math.Float64bits", "math.Float64frombits"], unfollowed := true, recurses := true, plainKeys := false, apart := false }
def LinksLastSaid : Prop := linksLastRow.holds Try.pinned (OpenSpec.ofChange linksLastSpec)

/-- ITS FALSE NEIGHBOUR: 'it returns false'. Refute it at one input. -/
def linksLastWrong : ChangeSpec := { name := "linksLast", fn := fun _ => fun
  | [d1, d2, d3] => { results := [.lit (.bool false)], args := [d1, d2, d3] }
  | _ => none }
def LinksLastWrongFalsely : Prop := linksLastRow.holds Try.pinned (OpenSpec.ofChange linksLastWrong)

/- THE SECOND FORM. 'bulk': how many values and letters a reading holds, each counted each time it is reached (what is shared counts as often as it is met; a slice's spare places count too). A statement '..UptoSaid' is the law's where the arguments, and the package variables that the reading takes, are together of bulk at most 1048576: NARROWER than '..Said'. Prove '..Said' where nothing that the law and all that it calls make is longer than what came in: it says more and counts as full. Else prove '..UptoSaid'. A law counts once. -/
mutual
def uptoBulk {H : Type} : DataW H → Nat
  | .lit (.string bytes) => bytes.length + 1
  | .lit _ => 1
  | .nil => 1
  | .ptr d => uptoBulk d + 1
  | .slice elems spare => uptoBulkAll elems + uptoBulkAll spare + 1
  | .agg parts => uptoBulkAll parts + 1
  | .iface _ d => uptoBulk d + 1
  | .map entries => uptoBulkEntries entries + 1
  | .held _ => 1
def uptoBulkAll {H : Type} : List (DataW H) → Nat
  | [] => 0
  | d :: r => uptoBulk d + uptoBulkAll r
def uptoBulkEntries {H : Type} : List (Lit × DataW H) → Nat
  | [] => 0
  | x :: r => uptoBulkEntry x + uptoBulkEntries r
def uptoBulkEntry {H : Type} : Lit × DataW H → Nat
  | (.string bytes, d) => bytes.length + uptoBulk d + 1
  | (_, d) => uptoBulk d + 1
 end
def uptoSmall : (H : Type) → List (DataW H) → Bool := fun _ ds => decide (uptoBulkAll ds ≤ 1048576)
def OpenSpec.upto (s : _root_.Go.ChangeSpec) : _root_.Go.OpenSpec := { _root_.Go.OpenSpec.ofChange s with cond := some uptoSmall }

/-- 'exitwavelaw14.LinksDeaf', WHERE WHAT IT READS IS OF BULK AT MOST 1048576: true; the input reads as it did. -/
def linksDeafUptoRow : OpenClaim := { program := "ytoofhccjjhhipaa", sum := "ecfcd5ff0192e494f347d971eecbceb8c866aa959656d42dbdeebd5d0043cd89", func := "exitwave/exitwavelaw14.LinksDeaf", spec := "linksDeaf", unfollowed := true, recurses := true, plainKeys := false, apart := false, narrowed := true }
def LinksDeafUptoSaid : Prop := linksDeafUptoRow.holds Try.pinned (OpenSpec.upto linksDeafSpec)

/-- 'exitwavelaw14.LinksPlays', WHERE WHAT IT READS IS OF BULK AT MOST 1048576: true; the input reads as it did. -/
def linksPlaysUptoRow : OpenClaim := { program := "ytoofhccjjhhipaa", sum := "ecfcd5ff0192e494f347d971eecbceb8c866aa959656d42dbdeebd5d0043cd89", func := "exitwave/exitwavelaw14.LinksPlays", spec := "linksPlays", unfollowed := true, recurses := true, plainKeys := false, apart := false, narrowed := true }
def LinksPlaysUptoSaid : Prop := linksPlaysUptoRow.holds Try.pinned (OpenSpec.upto linksPlaysSpec)

/-- 'exitwavelaw14.LinksAgree', WHERE WHAT IT READS IS OF BULK AT MOST 1048576: true; the input reads as it did. -/
def linksAgreeUptoRow : OpenClaim := { program := "ytoofhccjjhhipaa", sum := "ecfcd5ff0192e494f347d971eecbceb8c866aa959656d42dbdeebd5d0043cd89", func := "exitwave/exitwavelaw14.LinksAgree", spec := "linksAgree", inPlace := ["math.Float64bits", "math.Float64frombits"], recurses := true, plainKeys := false, apart := false, narrowed := true }
def LinksAgreeUptoSaid : Prop := linksAgreeUptoRow.holds Try.pinned (OpenSpec.upto linksAgreeSpec)

/-- 'exitwavelaw14.LinksLast', WHERE WHAT IT READS IS OF BULK AT MOST 1048576: true; the input reads as it did. -/
def linksLastUptoRow : OpenClaim := { program := "ytoofhccjjhhipaa", sum := "ecfcd5ff0192e494f347d971eecbceb8c866aa959656d42dbdeebd5d0043cd89", func := "exitwave/exitwavelaw14.LinksLast", spec := "linksLast", inPlace := ["math.Float64bits", "math.Float64frombits"], unfollowed := true, recurses := true, plainKeys := false, apart := false, narrowed := true }
def LinksLastUptoSaid : Prop := linksLastUptoRow.holds Try.pinned (OpenSpec.upto linksLastSpec)

end Rows
end Go.Proofs.Ytoofhccjjhhipaa
