/-
  No cell of these rows narrows 'for every input' (looked for: loops, veiled, ifaces, maps, wideKeys, modest, calm, conditions, laid).
  DERIVED. THE GIVEN ROWS OF THIS SEAT. 6 by the template 'for every input the law returns true; each argument reads behind the call as it read before'; 0 by the template 'total and deterministic' (their statements: YtlgkofgieceooaaTotals.lean).
  GIVEN WITH THE SEED: the statements are not yours to turn. If you find one false, say at which input.
  Laid BY PROGRAM, IN A SANDBOX (cutbox-rows.mjs): the forced cells as the released guide's own fill.sh prints them over the translation fa299f56634f072b… (all of the seat's roots in one cut). By AI agents, Wed Nov 11 2026. No macro, syntax, notation, axiom, sorry.
-/
import Derived.Test.YtlgkofgieceooaaChecked
import GoSem.Claim
import GoSem.ClaimJoined
import GoSem.ClaimMapViews
import Derived.JoinedTies
import Derived.KernelRfl
namespace Go.Proofs.Ytlgkofgieceooaa
/- THE CELL 'sum', in the pinned program and in every row, IS THE sha256 OF THE DUMP (.gsa) THAT YtlgkofgieceooaaProg.lean LOADS. Nothing in Lean hashes anything: it is a label: what it is worth is what the hold of that sum in a sandbox is worth. -/
noncomputable def Try.pinned : Pinned := { name := "ytlgkofgieceooaa", sum := "fa299f56634f072bcf5dc697ae82d78e59045b17d86d08205b605720157b9b4f", checked := Try.checked }
namespace Rows
def none {H : Type} : Left H := { results := [], args := [] }

/-- 'exitwavelaw3.WordMakes': WHATEVER THE INPUT: true; the input reads as it did. -/
def wordMakesSpec : ChangeSpec := { name := "wordMakes", fn := fun _ => fun
  | [d1, d2] => { results := [.lit (.bool true)], args := [d1, d2] }
  | _ => none }
def wordMakesRow : OpenClaim := { program := "ytlgkofgieceooaa", sum := "fa299f56634f072bcf5dc697ae82d78e59045b17d86d08205b605720157b9b4f", func := "exitwave/exitwavelaw3.WordMakes", spec := "wordMakes", apart := false }
def WordMakesSaid : Prop := wordMakesRow.holds Try.pinned (OpenSpec.ofChange wordMakesSpec)

/-- ITS FALSE NEIGHBOUR: 'it returns false'. Refute it at one input. -/
def wordMakesWrong : ChangeSpec := { name := "wordMakes", fn := fun _ => fun
  | [d1, d2] => { results := [.lit (.bool false)], args := [d1, d2] }
  | _ => none }
def WordMakesWrongFalsely : Prop := wordMakesRow.holds Try.pinned (OpenSpec.ofChange wordMakesWrong)

/-- 'exitwavelaw3.WordLooks': WHATEVER THE INPUT: true; the input reads as it did. -/
def wordLooksSpec : ChangeSpec := { name := "wordLooks", fn := fun _ => fun
  | [d] => { results := [.lit (.bool true)], args := [d] }
  | _ => none }
def wordLooksRow : OpenClaim := { program := "ytlgkofgieceooaa", sum := "fa299f56634f072bcf5dc697ae82d78e59045b17d86d08205b605720157b9b4f", func := "exitwave/exitwavelaw3.WordLooks", spec := "wordLooks", apart := false }
def WordLooksSaid : Prop := wordLooksRow.holds Try.pinned (OpenSpec.ofChange wordLooksSpec)

/-- ITS FALSE NEIGHBOUR: 'it returns false'. Refute it at one input. -/
def wordLooksWrong : ChangeSpec := { name := "wordLooks", fn := fun _ => fun
  | [d] => { results := [.lit (.bool false)], args := [d] }
  | _ => none }
def WordLooksWrongFalsely : Prop := wordLooksRow.holds Try.pinned (OpenSpec.ofChange wordLooksWrong)

/-- 'exitwavelaw3.WordHeaders': WHATEVER THE INPUT: true; the input reads as it did. -/
def wordHeadersSpec : ChangeSpec := { name := "wordHeaders", fn := fun _ => fun
  | [d1, d2] => { results := [.lit (.bool true)], args := [d1, d2] }
  | _ => none }
def wordHeadersRow : OpenClaim := { program := "ytlgkofgieceooaa", sum := "fa299f56634f072bcf5dc697ae82d78e59045b17d86d08205b605720157b9b4f", func := "exitwave/exitwavelaw3.WordHeaders", spec := "wordHeaders", apart := false }
def WordHeadersSaid : Prop := wordHeadersRow.holds Try.pinned (OpenSpec.ofChange wordHeadersSpec)

/-- ITS FALSE NEIGHBOUR: 'it returns false'. Refute it at one input. -/
def wordHeadersWrong : ChangeSpec := { name := "wordHeaders", fn := fun _ => fun
  | [d1, d2] => { results := [.lit (.bool false)], args := [d1, d2] }
  | _ => none }
def WordHeadersWrongFalsely : Prop := wordHeadersRow.holds Try.pinned (OpenSpec.ofChange wordHeadersWrong)

/-- 'exitwavelaw3.WordOnce': WHATEVER THE INPUT: true; the input reads as it did. -/
def wordOnceSpec : ChangeSpec := { name := "wordOnce", fn := fun _ => fun
  | [d1, d2, d3, d4] => { results := [.lit (.bool true)], args := [d1, d2, d3, d4] }
  | _ => none }
def wordOnceRow : OpenClaim := { program := "ytlgkofgieceooaa", sum := "fa299f56634f072bcf5dc697ae82d78e59045b17d86d08205b605720157b9b4f", func := "exitwave/exitwavelaw3.WordOnce", spec := "wordOnce", apart := false }
def WordOnceSaid : Prop := wordOnceRow.holds Try.pinned (OpenSpec.ofChange wordOnceSpec)

/-- ITS FALSE NEIGHBOUR: 'it returns false'. Refute it at one input. -/
def wordOnceWrong : ChangeSpec := { name := "wordOnce", fn := fun _ => fun
  | [d1, d2, d3, d4] => { results := [.lit (.bool false)], args := [d1, d2, d3, d4] }
  | _ => none }
def WordOnceWrongFalsely : Prop := wordOnceRow.holds Try.pinned (OpenSpec.ofChange wordOnceWrong)

/-- 'exitwavelaw3.WordAtoms': WHATEVER THE INPUT: true; the input reads as it did. -/
def wordAtomsSpec : ChangeSpec := { name := "wordAtoms", fn := fun _ => fun
  | [d1, d2] => { results := [.lit (.bool true)], args := [d1, d2] }
  | _ => none }
def wordAtomsRow : OpenClaim := { program := "ytlgkofgieceooaa", sum := "fa299f56634f072bcf5dc697ae82d78e59045b17d86d08205b605720157b9b4f", func := "exitwave/exitwavelaw3.WordAtoms", spec := "wordAtoms", apart := false }
def WordAtomsSaid : Prop := wordAtomsRow.holds Try.pinned (OpenSpec.ofChange wordAtomsSpec)

/-- ITS FALSE NEIGHBOUR: 'it returns false'. Refute it at one input. -/
def wordAtomsWrong : ChangeSpec := { name := "wordAtoms", fn := fun _ => fun
  | [d1, d2] => { results := [.lit (.bool false)], args := [d1, d2] }
  | _ => none }
def WordAtomsWrongFalsely : Prop := wordAtomsRow.holds Try.pinned (OpenSpec.ofChange wordAtomsWrong)

/-- 'exitwavelaw3.WordTexts': WHATEVER THE INPUT: true; the input reads as it did. -/
def wordTextsSpec : ChangeSpec := { name := "wordTexts", fn := fun _ => fun
  | [d] => { results := [.lit (.bool true)], args := [d] }
  | _ => none }
def wordTextsRow : OpenClaim := { program := "ytlgkofgieceooaa", sum := "fa299f56634f072bcf5dc697ae82d78e59045b17d86d08205b605720157b9b4f", func := "exitwave/exitwavelaw3.WordTexts", spec := "wordTexts", apart := false }
def WordTextsSaid : Prop := wordTextsRow.holds Try.pinned (OpenSpec.ofChange wordTextsSpec)

/-- ITS FALSE NEIGHBOUR: 'it returns false'. Refute it at one input. -/
def wordTextsWrong : ChangeSpec := { name := "wordTexts", fn := fun _ => fun
  | [d] => { results := [.lit (.bool false)], args := [d] }
  | _ => none }
def WordTextsWrongFalsely : Prop := wordTextsRow.holds Try.pinned (OpenSpec.ofChange wordTextsWrong)

/- THE SECOND FORM. 'bulk': how many values and letters a reading holds, each counted each time it is reached (what is shared counts as often as it is met; a slice's spare places count too). A statement '..UptoSaid' is the law's where the arguments, and the package variables that the reading takes, are together of bulk at most 1048576: NARROWER than '..Said'. Prove '..Said' where nothing that the law and all that it calls make is longer than what came in: it says more and counts as full. Else prove '..UptoSaid'. A law counts once. -/
mutual
def uptoBulk {H : Type} : DataW H → Nat
  | .lit (.string bytes) => bytes.length + 1
  | .lit _ => 1
  | .nil => 1
  | .ptr d => uptoBulk d + 1
  | .slice elems spare => uptoBulkAll elems + uptoBulkAll spare + 1
  | .agg parts => uptoBulkAll parts + 1
  | .iface _ d => uptoBulk d + 1
  | .map entries => uptoBulkEntries entries + 1
  | .held _ => 1
def uptoBulkAll {H : Type} : List (DataW H) → Nat
  | [] => 0
  | d :: r => uptoBulk d + uptoBulkAll r
def uptoBulkEntries {H : Type} : List (Lit × DataW H) → Nat
  | [] => 0
  | x :: r => uptoBulkEntry x + uptoBulkEntries r
def uptoBulkEntry {H : Type} : Lit × DataW H → Nat
  | (.string bytes, d) => bytes.length + uptoBulk d + 1
  | (_, d) => uptoBulk d + 1
 end
def uptoSmall : (H : Type) → List (DataW H) → Bool := fun _ ds => decide (uptoBulkAll ds ≤ 1048576)
def OpenSpec.upto (s : _root_.Go.ChangeSpec) : _root_.Go.OpenSpec := { _root_.Go.OpenSpec.ofChange s with cond := some uptoSmall }

/-- 'exitwavelaw3.WordMakes', WHERE WHAT IT READS IS OF BULK AT MOST 1048576: true; the input reads as it did. -/
def wordMakesUptoRow : OpenClaim := { program := "ytlgkofgieceooaa", sum := "fa299f56634f072bcf5dc697ae82d78e59045b17d86d08205b605720157b9b4f", func := "exitwave/exitwavelaw3.WordMakes", spec := "wordMakes", apart := false, narrowed := true }
def WordMakesUptoSaid : Prop := wordMakesUptoRow.holds Try.pinned (OpenSpec.upto wordMakesSpec)

/-- 'exitwavelaw3.WordLooks', WHERE WHAT IT READS IS OF BULK AT MOST 1048576: true; the input reads as it did. -/
def wordLooksUptoRow : OpenClaim := { program := "ytlgkofgieceooaa", sum := "fa299f56634f072bcf5dc697ae82d78e59045b17d86d08205b605720157b9b4f", func := "exitwave/exitwavelaw3.WordLooks", spec := "wordLooks", apart := false, narrowed := true }
def WordLooksUptoSaid : Prop := wordLooksUptoRow.holds Try.pinned (OpenSpec.upto wordLooksSpec)

/-- 'exitwavelaw3.WordHeaders', WHERE WHAT IT READS IS OF BULK AT MOST 1048576: true; the input reads as it did. -/
def wordHeadersUptoRow : OpenClaim := { program := "ytlgkofgieceooaa", sum := "fa299f56634f072bcf5dc697ae82d78e59045b17d86d08205b605720157b9b4f", func := "exitwave/exitwavelaw3.WordHeaders", spec := "wordHeaders", apart := false, narrowed := true }
def WordHeadersUptoSaid : Prop := wordHeadersUptoRow.holds Try.pinned (OpenSpec.upto wordHeadersSpec)

/-- 'exitwavelaw3.WordOnce', WHERE WHAT IT READS IS OF BULK AT MOST 1048576: true; the input reads as it did. -/
def wordOnceUptoRow : OpenClaim := { program := "ytlgkofgieceooaa", sum := "fa299f56634f072bcf5dc697ae82d78e59045b17d86d08205b605720157b9b4f", func := "exitwave/exitwavelaw3.WordOnce", spec := "wordOnce", apart := false, narrowed := true }
def WordOnceUptoSaid : Prop := wordOnceUptoRow.holds Try.pinned (OpenSpec.upto wordOnceSpec)

/-- 'exitwavelaw3.WordAtoms', WHERE WHAT IT READS IS OF BULK AT MOST 1048576: true; the input reads as it did. -/
def wordAtomsUptoRow : OpenClaim := { program := "ytlgkofgieceooaa", sum := "fa299f56634f072bcf5dc697ae82d78e59045b17d86d08205b605720157b9b4f", func := "exitwave/exitwavelaw3.WordAtoms", spec := "wordAtoms", apart := false, narrowed := true }
def WordAtomsUptoSaid : Prop := wordAtomsUptoRow.holds Try.pinned (OpenSpec.upto wordAtomsSpec)

/-- 'exitwavelaw3.WordTexts', WHERE WHAT IT READS IS OF BULK AT MOST 1048576: true; the input reads as it did. -/
def wordTextsUptoRow : OpenClaim := { program := "ytlgkofgieceooaa", sum := "fa299f56634f072bcf5dc697ae82d78e59045b17d86d08205b605720157b9b4f", func := "exitwave/exitwavelaw3.WordTexts", spec := "wordTexts", apart := false, narrowed := true }
def WordTextsUptoSaid : Prop := wordTextsUptoRow.holds Try.pinned (OpenSpec.upto wordTextsSpec)

end Rows
end Go.Proofs.Ytlgkofgieceooaa
