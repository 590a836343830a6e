/-
  NARROWER THAN 'FOR EVERY INPUT', by the rows' own cells (each row's printed sentence says how): NumMakes: laid · NumOps: loops, laid · NumFinite: laid · NumDivides: laid · NumOver: laid · NumOne: loops, laid · NumNear: laid · NumExact: laid · NumCompares: loops, laid · NumOrder: loops, laid · NumZeros: laid · NumOnes: loops, laid · NumWholes: laid · NumBack: laid.
  DERIVED. THE GIVEN ROWS OF THIS SEAT. 14 by the template 'for every input the law returns true; each argument reads behind the call as it read before'; 0 by the template 'total and deterministic' (their statements: YtlpifchimnnfdaaDoorTotals.lean).
  GIVEN WITH THE SEED: the statements are not yours to turn. If you find one false, say at which input.
  Laid BY PROGRAM, IN A SANDBOX (cutbox-rows.mjs): the forced cells as the released guide's own fill.sh prints them over the translation 3bf5fe8d90750187… (all of the seat's roots in one cut). By AI agents, Wed Nov 11 2026. No macro, syntax, notation, axiom, sorry.
-/
import Derived.Test.YtlpifchimnnfdaaDoorChecked
import GoSem.Claim
import GoSem.ClaimJoined
import GoSem.ClaimMapViews
import Derived.JoinedTies
import Derived.KernelRfl
namespace Go.Proofs.YtlpifchimnnfdaaDoor
/- THE CELL 'sum', in the pinned program and in every row, IS THE sha256 OF THE DUMP (.gsa) THAT YtlpifchimnnfdaaDoorProg.lean LOADS. Nothing in Lean hashes anything: it is a label: what it is worth is what the hold of that sum in a sandbox is worth. -/
noncomputable def Tryd.pinned : Pinned := { name := "ytlpifchimnnfdaadoor", sum := "3bf5fe8d907501873765dfa9a79e15d98ee5dbd3707b531c95aea0a0fb690c1b", checked := Tryd.checked }
namespace Rows
def none {H : Type} : Left H := { results := [], args := [] }

/- WHAT THE LISTED PACKAGE-LEVEL VARIABLES READ AS WHEN THE CALL BEGINS. Each datum BY PROGRAM (the guide's laid-datum.mjs) off the statement by which the dump's own 'gosem.cut.vars' lays the variable. In a bare row this is a premise. The card (YtlpifchimnnfdaaDoorCards.lean) ties it to the program's text. -/
def laid_math_bits_deBruijn32tab {H : Type} : DataW H := .agg [.lit (.int .u8 0), .lit (.int .u8 1), .lit (.int .u8 28), .lit (.int .u8 2), .lit (.int .u8 29), .lit (.int .u8 14), .lit (.int .u8 24), .lit (.int .u8 3), .lit (.int .u8 30), .lit (.int .u8 22), .lit (.int .u8 20), .lit (.int .u8 15), .lit (.int .u8 25), .lit (.int .u8 17), .lit (.int .u8 4), .lit (.int .u8 8), .lit (.int .u8 31), .lit (.int .u8 27), .lit (.int .u8 13), .lit (.int .u8 23), .lit (.int .u8 21), .lit (.int .u8 19), .lit (.int .u8 16), .lit (.int .u8 7), .lit (.int .u8 26), .lit (.int .u8 12), .lit (.int .u8 18), .lit (.int .u8 6), .lit (.int .u8 11), .lit (.int .u8 5), .lit (.int .u8 10), .lit (.int .u8 9)]
def laid_math_bits_deBruijn64tab {H : Type} : DataW H := .agg [.lit (.int .u8 0), .lit (.int .u8 1), .lit (.int .u8 56), .lit (.int .u8 2), .lit (.int .u8 57), .lit (.int .u8 49), .lit (.int .u8 28), .lit (.int .u8 3), .lit (.int .u8 61), .lit (.int .u8 58), .lit (.int .u8 42), .lit (.int .u8 50), .lit (.int .u8 38), .lit (.int .u8 29), .lit (.int .u8 17), .lit (.int .u8 4), .lit (.int .u8 62), .lit (.int .u8 47), .lit (.int .u8 59), .lit (.int .u8 36), .lit (.int .u8 45), .lit (.int .u8 43), .lit (.int .u8 51), .lit (.int .u8 22), .lit (.int .u8 53), .lit (.int .u8 39), .lit (.int .u8 33), .lit (.int .u8 30), .lit (.int .u8 24), .lit (.int .u8 18), .lit (.int .u8 12), .lit (.int .u8 5), .lit (.int .u8 63), .lit (.int .u8 55), .lit (.int .u8 48), .lit (.int .u8 27), .lit (.int .u8 60), .lit (.int .u8 41), .lit (.int .u8 37), .lit (.int .u8 16), .lit (.int .u8 46), .lit (.int .u8 35), .lit (.int .u8 44), .lit (.int .u8 21), .lit (.int .u8 52), .lit (.int .u8 32), .lit (.int .u8 23), .lit (.int .u8 11), .lit (.int .u8 54), .lit (.int .u8 26), .lit (.int .u8 40), .lit (.int .u8 15), .lit (.int .u8 34), .lit (.int .u8 20), .lit (.int .u8 31), .lit (.int .u8 10), .lit (.int .u8 25), .lit (.int .u8 14), .lit (.int .u8 19), .lit (.int .u8 9), .lit (.int .u8 13), .lit (.int .u8 8), .lit (.int .u8 7), .lit (.int .u8 6)]
def laid_internal_strconv_uint64pow10 {H : Type} : DataW H := .agg [.lit (.int .u64 1), .lit (.int .u64 10), .lit (.int .u64 100), .lit (.int .u64 1000), .lit (.int .u64 10000), .lit (.int .u64 100000), .lit (.int .u64 1000000), .lit (.int .u64 10000000), .lit (.int .u64 100000000), .lit (.int .u64 1000000000), .lit (.int .u64 10000000000), .lit (.int .u64 100000000000), .lit (.int .u64 1000000000000), .lit (.int .u64 10000000000000), .lit (.int .u64 100000000000000), .lit (.int .u64 1000000000000000), .lit (.int .u64 10000000000000000), .lit (.int .u64 100000000000000000), .lit (.int .u64 1000000000000000000), .lit (.int .u64 10000000000000000000)]

/-- 'exitwavelaw1.NumMakes': WHATEVER THE INPUT: true; the input reads as it did. -/
def numMakesSpec : ChangeSpec := { name := "numMakes", fn := fun _ => fun
  | [d1, d2] => { results := [.lit (.bool true)], args := [d1, d2] }
  | _ => none }
def numMakesRow : OpenClaim := { program := "ytlpifchimnnfdaadoor", sum := "3bf5fe8d907501873765dfa9a79e15d98ee5dbd3707b531c95aea0a0fb690c1b", func := "exitwave/exitwavelaw1.NumMakes", spec := "numMakes", inPlace := ["math.Float64bits", "math.Float64frombits"], named := ["internal/strconv.uint64pow10", "math/bits.deBruijn32tab", "math/bits.deBruijn64tab"], apart := false, laid := [("math/bits.deBruijn32tab", laid_math_bits_deBruijn32tab), ("math/bits.deBruijn64tab", laid_math_bits_deBruijn64tab), ("internal/strconv.uint64pow10", laid_internal_strconv_uint64pow10)] }
def NumMakesSaid : Prop := numMakesRow.holds Tryd.pinned (OpenSpec.ofChange numMakesSpec)

/-- ITS FALSE NEIGHBOUR: 'it returns false'. Refute it at one input. -/
def numMakesWrong : ChangeSpec := { name := "numMakes", fn := fun _ => fun
  | [d1, d2] => { results := [.lit (.bool false)], args := [d1, d2] }
  | _ => none }
def NumMakesWrongFalsely : Prop := numMakesRow.holds Tryd.pinned (OpenSpec.ofChange numMakesWrong)

/-- 'exitwavelaw1.NumOps': WHATEVER THE INPUT: true; the input reads as it did. -/
def numOpsSpec : ChangeSpec := { name := "numOps", fn := fun _ => fun
  | [d1, d2, d3] => { results := [.lit (.bool true)], args := [d1, d2, d3] }
  | _ => none }
def numOpsRow : OpenClaim := { program := "ytlpifchimnnfdaadoor", sum := "3bf5fe8d907501873765dfa9a79e15d98ee5dbd3707b531c95aea0a0fb690c1b", func := "exitwave/exitwavelaw1.NumOps", spec := "numOps", inPlace := ["math.Float64bits", "math.Float64frombits"], named := ["internal/strconv.uint64pow10", "math/bits.deBruijn32tab", "math/bits.deBruijn64tab"], loops := true, apart := false, laid := [("math/bits.deBruijn32tab", laid_math_bits_deBruijn32tab), ("math/bits.deBruijn64tab", laid_math_bits_deBruijn64tab), ("internal/strconv.uint64pow10", laid_internal_strconv_uint64pow10)] }
def NumOpsSaid : Prop := numOpsRow.holds Tryd.pinned (OpenSpec.ofChange numOpsSpec)

/-- ITS FALSE NEIGHBOUR: 'it returns false'. Refute it at one input. -/
def numOpsWrong : ChangeSpec := { name := "numOps", fn := fun _ => fun
  | [d1, d2, d3] => { results := [.lit (.bool false)], args := [d1, d2, d3] }
  | _ => none }
def NumOpsWrongFalsely : Prop := numOpsRow.holds Tryd.pinned (OpenSpec.ofChange numOpsWrong)

/-- 'exitwavelaw1.NumFinite': WHATEVER THE INPUT: true; the input reads as it did. -/
def numFiniteSpec : ChangeSpec := { name := "numFinite", fn := fun _ => fun
  | [d1, d2, d3, d4] => { results := [.lit (.bool true)], args := [d1, d2, d3, d4] }
  | _ => none }
def numFiniteRow : OpenClaim := { program := "ytlpifchimnnfdaadoor", sum := "3bf5fe8d907501873765dfa9a79e15d98ee5dbd3707b531c95aea0a0fb690c1b", func := "exitwave/exitwavelaw1.NumFinite", spec := "numFinite", inPlace := ["math.Float64bits", "math.Float64frombits"], named := ["internal/strconv.uint64pow10", "math/bits.deBruijn32tab", "math/bits.deBruijn64tab"], apart := false, laid := [("math/bits.deBruijn32tab", laid_math_bits_deBruijn32tab), ("math/bits.deBruijn64tab", laid_math_bits_deBruijn64tab), ("internal/strconv.uint64pow10", laid_internal_strconv_uint64pow10)] }
def NumFiniteSaid : Prop := numFiniteRow.holds Tryd.pinned (OpenSpec.ofChange numFiniteSpec)

/-- ITS FALSE NEIGHBOUR: 'it returns false'. Refute it at one input. -/
def numFiniteWrong : ChangeSpec := { name := "numFinite", fn := fun _ => fun
  | [d1, d2, d3, d4] => { results := [.lit (.bool false)], args := [d1, d2, d3, d4] }
  | _ => none }
def NumFiniteWrongFalsely : Prop := numFiniteRow.holds Tryd.pinned (OpenSpec.ofChange numFiniteWrong)

/-- 'exitwavelaw1.NumDivides': WHATEVER THE INPUT: true; the input reads as it did. -/
def numDividesSpec : ChangeSpec := { name := "numDivides", fn := fun _ => fun
  | [d1, d2] => { results := [.lit (.bool true)], args := [d1, d2] }
  | _ => none }
def numDividesRow : OpenClaim := { program := "ytlpifchimnnfdaadoor", sum := "3bf5fe8d907501873765dfa9a79e15d98ee5dbd3707b531c95aea0a0fb690c1b", func := "exitwave/exitwavelaw1.NumDivides", spec := "numDivides", inPlace := ["math.Float64bits", "math.Float64frombits"], named := ["internal/strconv.uint64pow10", "math/bits.deBruijn32tab", "math/bits.deBruijn64tab"], apart := false, laid := [("math/bits.deBruijn32tab", laid_math_bits_deBruijn32tab), ("math/bits.deBruijn64tab", laid_math_bits_deBruijn64tab), ("internal/strconv.uint64pow10", laid_internal_strconv_uint64pow10)] }
def NumDividesSaid : Prop := numDividesRow.holds Tryd.pinned (OpenSpec.ofChange numDividesSpec)

/-- ITS FALSE NEIGHBOUR: 'it returns false'. Refute it at one input. -/
def numDividesWrong : ChangeSpec := { name := "numDivides", fn := fun _ => fun
  | [d1, d2] => { results := [.lit (.bool false)], args := [d1, d2] }
  | _ => none }
def NumDividesWrongFalsely : Prop := numDividesRow.holds Tryd.pinned (OpenSpec.ofChange numDividesWrong)

/-- 'exitwavelaw1.NumOver': WHATEVER THE INPUT: true; the input reads as it did. -/
def numOverSpec : ChangeSpec := { name := "numOver", fn := fun _ => fun
  | [d1, d2] => { results := [.lit (.bool true)], args := [d1, d2] }
  | _ => none }
def numOverRow : OpenClaim := { program := "ytlpifchimnnfdaadoor", sum := "3bf5fe8d907501873765dfa9a79e15d98ee5dbd3707b531c95aea0a0fb690c1b", func := "exitwave/exitwavelaw1.NumOver", spec := "numOver", inPlace := ["math.Float64bits", "math.Float64frombits"], named := ["internal/strconv.uint64pow10", "math/bits.deBruijn32tab", "math/bits.deBruijn64tab"], apart := false, laid := [("math/bits.deBruijn32tab", laid_math_bits_deBruijn32tab), ("math/bits.deBruijn64tab", laid_math_bits_deBruijn64tab), ("internal/strconv.uint64pow10", laid_internal_strconv_uint64pow10)] }
def NumOverSaid : Prop := numOverRow.holds Tryd.pinned (OpenSpec.ofChange numOverSpec)

/-- ITS FALSE NEIGHBOUR: 'it returns false'. Refute it at one input. -/
def numOverWrong : ChangeSpec := { name := "numOver", fn := fun _ => fun
  | [d1, d2] => { results := [.lit (.bool false)], args := [d1, d2] }
  | _ => none }
def NumOverWrongFalsely : Prop := numOverRow.holds Tryd.pinned (OpenSpec.ofChange numOverWrong)

/-- 'exitwavelaw1.NumOne': WHATEVER THE INPUT: true; the input reads as it did. -/
def numOneSpec : ChangeSpec := { name := "numOne", fn := fun _ => fun
  | [d] => { results := [.lit (.bool true)], args := [d] }
  | _ => none }
def numOneRow : OpenClaim := { program := "ytlpifchimnnfdaadoor", sum := "3bf5fe8d907501873765dfa9a79e15d98ee5dbd3707b531c95aea0a0fb690c1b", func := "exitwave/exitwavelaw1.NumOne", spec := "numOne", inPlace := ["math.Float64bits", "math.Float64frombits"], named := ["internal/strconv.uint64pow10", "math/bits.deBruijn32tab", "math/bits.deBruijn64tab"], loops := true, apart := false, laid := [("math/bits.deBruijn32tab", laid_math_bits_deBruijn32tab), ("math/bits.deBruijn64tab", laid_math_bits_deBruijn64tab), ("internal/strconv.uint64pow10", laid_internal_strconv_uint64pow10)] }
def NumOneSaid : Prop := numOneRow.holds Tryd.pinned (OpenSpec.ofChange numOneSpec)

/-- ITS FALSE NEIGHBOUR: 'it returns false'. Refute it at one input. -/
def numOneWrong : ChangeSpec := { name := "numOne", fn := fun _ => fun
  | [d] => { results := [.lit (.bool false)], args := [d] }
  | _ => none }
def NumOneWrongFalsely : Prop := numOneRow.holds Tryd.pinned (OpenSpec.ofChange numOneWrong)

/-- 'exitwavelaw1.NumNear': WHATEVER THE INPUT: true; the input reads as it did. -/
def numNearSpec : ChangeSpec := { name := "numNear", fn := fun _ => fun
  | [d] => { results := [.lit (.bool true)], args := [d] }
  | _ => none }
def numNearRow : OpenClaim := { program := "ytlpifchimnnfdaadoor", sum := "3bf5fe8d907501873765dfa9a79e15d98ee5dbd3707b531c95aea0a0fb690c1b", func := "exitwave/exitwavelaw1.NumNear", spec := "numNear", inPlace := ["math.Float64bits", "math.Float64frombits"], named := ["internal/strconv.uint64pow10", "math/bits.deBruijn32tab", "math/bits.deBruijn64tab"], apart := false, laid := [("math/bits.deBruijn32tab", laid_math_bits_deBruijn32tab), ("math/bits.deBruijn64tab", laid_math_bits_deBruijn64tab), ("internal/strconv.uint64pow10", laid_internal_strconv_uint64pow10)] }
def NumNearSaid : Prop := numNearRow.holds Tryd.pinned (OpenSpec.ofChange numNearSpec)

/-- ITS FALSE NEIGHBOUR: 'it returns false'. Refute it at one input. -/
def numNearWrong : ChangeSpec := { name := "numNear", fn := fun _ => fun
  | [d] => { results := [.lit (.bool false)], args := [d] }
  | _ => none }
def NumNearWrongFalsely : Prop := numNearRow.holds Tryd.pinned (OpenSpec.ofChange numNearWrong)

/-- 'exitwavelaw1.NumExact': WHATEVER THE INPUT: true; the input reads as it did. -/
def numExactSpec : ChangeSpec := { name := "numExact", fn := fun _ => fun
  | [d1, d2] => { results := [.lit (.bool true)], args := [d1, d2] }
  | _ => none }
def numExactRow : OpenClaim := { program := "ytlpifchimnnfdaadoor", sum := "3bf5fe8d907501873765dfa9a79e15d98ee5dbd3707b531c95aea0a0fb690c1b", func := "exitwave/exitwavelaw1.NumExact", spec := "numExact", inPlace := ["math.Float64bits", "math.Float64frombits", "math.archTrunc"], named := ["internal/strconv.uint64pow10", "math/bits.deBruijn32tab", "math/bits.deBruijn64tab"], apart := false, laid := [("math/bits.deBruijn32tab", laid_math_bits_deBruijn32tab), ("math/bits.deBruijn64tab", laid_math_bits_deBruijn64tab), ("internal/strconv.uint64pow10", laid_internal_strconv_uint64pow10)] }
def NumExactSaid : Prop := numExactRow.holds Tryd.pinned (OpenSpec.ofChange numExactSpec)

/-- ITS FALSE NEIGHBOUR: 'it returns false'. Refute it at one input. -/
def numExactWrong : ChangeSpec := { name := "numExact", fn := fun _ => fun
  | [d1, d2] => { results := [.lit (.bool false)], args := [d1, d2] }
  | _ => none }
def NumExactWrongFalsely : Prop := numExactRow.holds Tryd.pinned (OpenSpec.ofChange numExactWrong)

/-- 'exitwavelaw1.NumCompares': WHATEVER THE INPUT: true; the input reads as it did. -/
def numComparesSpec : ChangeSpec := { name := "numCompares", fn := fun _ => fun
  | [d1, d2] => { results := [.lit (.bool true)], args := [d1, d2] }
  | _ => none }
def numComparesRow : OpenClaim := { program := "ytlpifchimnnfdaadoor", sum := "3bf5fe8d907501873765dfa9a79e15d98ee5dbd3707b531c95aea0a0fb690c1b", func := "exitwave/exitwavelaw1.NumCompares", spec := "numCompares", inPlace := ["math.Float64bits", "math.Float64frombits", "math.archTrunc"], recurses := true, named := ["internal/strconv.uint64pow10", "math/bits.deBruijn32tab", "math/bits.deBruijn64tab"], loops := true, apart := false, laid := [("math/bits.deBruijn32tab", laid_math_bits_deBruijn32tab), ("math/bits.deBruijn64tab", laid_math_bits_deBruijn64tab), ("internal/strconv.uint64pow10", laid_internal_strconv_uint64pow10)] }
def NumComparesSaid : Prop := numComparesRow.holds Tryd.pinned (OpenSpec.ofChange numComparesSpec)

/-- ITS FALSE NEIGHBOUR: 'it returns false'. Refute it at one input. -/
def numComparesWrong : ChangeSpec := { name := "numCompares", fn := fun _ => fun
  | [d1, d2] => { results := [.lit (.bool false)], args := [d1, d2] }
  | _ => none }
def NumComparesWrongFalsely : Prop := numComparesRow.holds Tryd.pinned (OpenSpec.ofChange numComparesWrong)

/-- 'exitwavelaw1.NumOrder': WHATEVER THE INPUT: true; the input reads as it did. -/
def numOrderSpec : ChangeSpec := { name := "numOrder", fn := fun _ => fun
  | [d1, d2, d3] => { results := [.lit (.bool true)], args := [d1, d2, d3] }
  | _ => none }
def numOrderRow : OpenClaim := { program := "ytlpifchimnnfdaadoor", sum := "3bf5fe8d907501873765dfa9a79e15d98ee5dbd3707b531c95aea0a0fb690c1b", func := "exitwave/exitwavelaw1.NumOrder", spec := "numOrder", inPlace := ["math.Float64bits", "math.Float64frombits", "math.archTrunc"], named := ["internal/strconv.uint64pow10", "math/bits.deBruijn32tab", "math/bits.deBruijn64tab"], loops := true, apart := false, laid := [("math/bits.deBruijn32tab", laid_math_bits_deBruijn32tab), ("math/bits.deBruijn64tab", laid_math_bits_deBruijn64tab), ("internal/strconv.uint64pow10", laid_internal_strconv_uint64pow10)] }
def NumOrderSaid : Prop := numOrderRow.holds Tryd.pinned (OpenSpec.ofChange numOrderSpec)

/-- ITS FALSE NEIGHBOUR: 'it returns false'. Refute it at one input. -/
def numOrderWrong : ChangeSpec := { name := "numOrder", fn := fun _ => fun
  | [d1, d2, d3] => { results := [.lit (.bool false)], args := [d1, d2, d3] }
  | _ => none }
def NumOrderWrongFalsely : Prop := numOrderRow.holds Tryd.pinned (OpenSpec.ofChange numOrderWrong)

/-- 'exitwavelaw1.NumZeros': WHATEVER THE INPUT: true; the input reads as it did. -/
def numZerosSpec : ChangeSpec := { name := "numZeros", fn := fun _ => fun
  | [d] => { results := [.lit (.bool true)], args := [d] }
  | _ => none }
def numZerosRow : OpenClaim := { program := "ytlpifchimnnfdaadoor", sum := "3bf5fe8d907501873765dfa9a79e15d98ee5dbd3707b531c95aea0a0fb690c1b", func := "exitwave/exitwavelaw1.NumZeros", spec := "numZeros", inPlace := ["math.Float64bits", "math.Float64frombits", "math.archTrunc"], named := ["internal/strconv.uint64pow10", "math/bits.deBruijn32tab", "math/bits.deBruijn64tab"], apart := false, laid := [("math/bits.deBruijn32tab", laid_math_bits_deBruijn32tab), ("math/bits.deBruijn64tab", laid_math_bits_deBruijn64tab), ("internal/strconv.uint64pow10", laid_internal_strconv_uint64pow10)] }
def NumZerosSaid : Prop := numZerosRow.holds Tryd.pinned (OpenSpec.ofChange numZerosSpec)

/-- ITS FALSE NEIGHBOUR: 'it returns false'. Refute it at one input. -/
def numZerosWrong : ChangeSpec := { name := "numZeros", fn := fun _ => fun
  | [d] => { results := [.lit (.bool false)], args := [d] }
  | _ => none }
def NumZerosWrongFalsely : Prop := numZerosRow.holds Tryd.pinned (OpenSpec.ofChange numZerosWrong)

/-- 'exitwavelaw1.NumOnes': WHATEVER THE INPUT: true; the input reads as it did. -/
def numOnesSpec : ChangeSpec := { name := "numOnes", fn := fun _ => fun
  | [d1, d2] => { results := [.lit (.bool true)], args := [d1, d2] }
  | _ => none }
def numOnesRow : OpenClaim := { program := "ytlpifchimnnfdaadoor", sum := "3bf5fe8d907501873765dfa9a79e15d98ee5dbd3707b531c95aea0a0fb690c1b", func := "exitwave/exitwavelaw1.NumOnes", spec := "numOnes", inPlace := ["math.Float64bits", "math.Float64frombits", "math.archTrunc", "math.archFloor", "math.archCeil"], named := ["internal/strconv.uint64pow10", "math/bits.deBruijn32tab", "math/bits.deBruijn64tab"], loops := true, apart := false, laid := [("math/bits.deBruijn32tab", laid_math_bits_deBruijn32tab), ("math/bits.deBruijn64tab", laid_math_bits_deBruijn64tab), ("internal/strconv.uint64pow10", laid_internal_strconv_uint64pow10)] }
def NumOnesSaid : Prop := numOnesRow.holds Tryd.pinned (OpenSpec.ofChange numOnesSpec)

/-- ITS FALSE NEIGHBOUR: 'it returns false'. Refute it at one input. -/
def numOnesWrong : ChangeSpec := { name := "numOnes", fn := fun _ => fun
  | [d1, d2] => { results := [.lit (.bool false)], args := [d1, d2] }
  | _ => none }
def NumOnesWrongFalsely : Prop := numOnesRow.holds Tryd.pinned (OpenSpec.ofChange numOnesWrong)

/-- 'exitwavelaw1.NumWholes': WHATEVER THE INPUT: true; the input reads as it did. -/
def numWholesSpec : ChangeSpec := { name := "numWholes", fn := fun _ => fun
  | [d] => { results := [.lit (.bool true)], args := [d] }
  | _ => none }
def numWholesRow : OpenClaim := { program := "ytlpifchimnnfdaadoor", sum := "3bf5fe8d907501873765dfa9a79e15d98ee5dbd3707b531c95aea0a0fb690c1b", func := "exitwave/exitwavelaw1.NumWholes", spec := "numWholes", inPlace := ["math.Float64bits", "math.Float64frombits", "math.archTrunc", "math.archFloor", "math.archCeil"], named := ["internal/strconv.uint64pow10", "math/bits.deBruijn32tab", "math/bits.deBruijn64tab"], apart := false, laid := [("math/bits.deBruijn32tab", laid_math_bits_deBruijn32tab), ("math/bits.deBruijn64tab", laid_math_bits_deBruijn64tab), ("internal/strconv.uint64pow10", laid_internal_strconv_uint64pow10)] }
def NumWholesSaid : Prop := numWholesRow.holds Tryd.pinned (OpenSpec.ofChange numWholesSpec)

/-- ITS FALSE NEIGHBOUR: 'it returns false'. Refute it at one input. -/
def numWholesWrong : ChangeSpec := { name := "numWholes", fn := fun _ => fun
  | [d] => { results := [.lit (.bool false)], args := [d] }
  | _ => none }
def NumWholesWrongFalsely : Prop := numWholesRow.holds Tryd.pinned (OpenSpec.ofChange numWholesWrong)

/-- 'exitwavelaw1.NumBack': WHATEVER THE INPUT: true; the input reads as it did. -/
def numBackSpec : ChangeSpec := { name := "numBack", fn := fun _ => fun
  | [d1, d2] => { results := [.lit (.bool true)], args := [d1, d2] }
  | _ => none }
def numBackRow : OpenClaim := { program := "ytlpifchimnnfdaadoor", sum := "3bf5fe8d907501873765dfa9a79e15d98ee5dbd3707b531c95aea0a0fb690c1b", func := "exitwave/exitwavelaw1.NumBack", spec := "numBack", inPlace := ["math.Float64bits", "math.Float64frombits", "math.archTrunc", "math.archFloor", "math.archCeil"], named := ["internal/strconv.uint64pow10", "math/bits.deBruijn32tab", "math/bits.deBruijn64tab"], apart := false, laid := [("math/bits.deBruijn32tab", laid_math_bits_deBruijn32tab), ("math/bits.deBruijn64tab", laid_math_bits_deBruijn64tab), ("internal/strconv.uint64pow10", laid_internal_strconv_uint64pow10)] }
def NumBackSaid : Prop := numBackRow.holds Tryd.pinned (OpenSpec.ofChange numBackSpec)

/-- ITS FALSE NEIGHBOUR: 'it returns false'. Refute it at one input. -/
def numBackWrong : ChangeSpec := { name := "numBack", fn := fun _ => fun
  | [d1, d2] => { results := [.lit (.bool false)], args := [d1, d2] }
  | _ => none }
def NumBackWrongFalsely : Prop := numBackRow.holds Tryd.pinned (OpenSpec.ofChange numBackWrong)

/- THE SECOND FORM. 'bulk': how many values and letters a reading holds, each counted each time it is reached (what is shared counts as often as it is met; a slice's spare places count too). A statement '..UptoSaid' is the law's where the arguments, and the package variables that the reading takes, are together of bulk at most 1048576: NARROWER than '..Said'. Prove '..Said' where nothing that the law and all that it calls make is longer than what came in: it says more and counts as full. Else prove '..UptoSaid'. A law counts once. -/
mutual
def uptoBulk {H : Type} : DataW H → Nat
  | .lit (.string bytes) => bytes.length + 1
  | .lit _ => 1
  | .nil => 1
  | .ptr d => uptoBulk d + 1
  | .slice elems spare => uptoBulkAll elems + uptoBulkAll spare + 1
  | .agg parts => uptoBulkAll parts + 1
  | .iface _ d => uptoBulk d + 1
  | .map entries => uptoBulkEntries entries + 1
  | .held _ => 1
def uptoBulkAll {H : Type} : List (DataW H) → Nat
  | [] => 0
  | d :: r => uptoBulk d + uptoBulkAll r
def uptoBulkEntries {H : Type} : List (Lit × DataW H) → Nat
  | [] => 0
  | x :: r => uptoBulkEntry x + uptoBulkEntries r
def uptoBulkEntry {H : Type} : Lit × DataW H → Nat
  | (.string bytes, d) => bytes.length + uptoBulk d + 1
  | (_, d) => uptoBulk d + 1
 end
def uptoSmall : (H : Type) → List (DataW H) → Bool := fun _ ds => decide (uptoBulkAll ds ≤ 1048576)
def OpenSpec.upto (s : _root_.Go.ChangeSpec) : _root_.Go.OpenSpec := { _root_.Go.OpenSpec.ofChange s with cond := some uptoSmall }

/-- 'exitwavelaw1.NumMakes', WHERE WHAT IT READS IS OF BULK AT MOST 1048576: true; the input reads as it did. -/
def numMakesUptoRow : OpenClaim := { program := "ytlpifchimnnfdaadoor", sum := "3bf5fe8d907501873765dfa9a79e15d98ee5dbd3707b531c95aea0a0fb690c1b", func := "exitwave/exitwavelaw1.NumMakes", spec := "numMakes", inPlace := ["math.Float64bits", "math.Float64frombits"], named := ["internal/strconv.uint64pow10", "math/bits.deBruijn32tab", "math/bits.deBruijn64tab"], apart := false, laid := [("math/bits.deBruijn32tab", laid_math_bits_deBruijn32tab), ("math/bits.deBruijn64tab", laid_math_bits_deBruijn64tab), ("internal/strconv.uint64pow10", laid_internal_strconv_uint64pow10)], narrowed := true }
def NumMakesUptoSaid : Prop := numMakesUptoRow.holds Tryd.pinned (OpenSpec.upto numMakesSpec)

/-- 'exitwavelaw1.NumOps', WHERE WHAT IT READS IS OF BULK AT MOST 1048576: true; the input reads as it did. -/
def numOpsUptoRow : OpenClaim := { program := "ytlpifchimnnfdaadoor", sum := "3bf5fe8d907501873765dfa9a79e15d98ee5dbd3707b531c95aea0a0fb690c1b", func := "exitwave/exitwavelaw1.NumOps", spec := "numOps", inPlace := ["math.Float64bits", "math.Float64frombits"], named := ["internal/strconv.uint64pow10", "math/bits.deBruijn32tab", "math/bits.deBruijn64tab"], loops := true, apart := false, laid := [("math/bits.deBruijn32tab", laid_math_bits_deBruijn32tab), ("math/bits.deBruijn64tab", laid_math_bits_deBruijn64tab), ("internal/strconv.uint64pow10", laid_internal_strconv_uint64pow10)], narrowed := true }
def NumOpsUptoSaid : Prop := numOpsUptoRow.holds Tryd.pinned (OpenSpec.upto numOpsSpec)

/-- 'exitwavelaw1.NumFinite', WHERE WHAT IT READS IS OF BULK AT MOST 1048576: true; the input reads as it did. -/
def numFiniteUptoRow : OpenClaim := { program := "ytlpifchimnnfdaadoor", sum := "3bf5fe8d907501873765dfa9a79e15d98ee5dbd3707b531c95aea0a0fb690c1b", func := "exitwave/exitwavelaw1.NumFinite", spec := "numFinite", inPlace := ["math.Float64bits", "math.Float64frombits"], named := ["internal/strconv.uint64pow10", "math/bits.deBruijn32tab", "math/bits.deBruijn64tab"], apart := false, laid := [("math/bits.deBruijn32tab", laid_math_bits_deBruijn32tab), ("math/bits.deBruijn64tab", laid_math_bits_deBruijn64tab), ("internal/strconv.uint64pow10", laid_internal_strconv_uint64pow10)], narrowed := true }
def NumFiniteUptoSaid : Prop := numFiniteUptoRow.holds Tryd.pinned (OpenSpec.upto numFiniteSpec)

/-- 'exitwavelaw1.NumDivides', WHERE WHAT IT READS IS OF BULK AT MOST 1048576: true; the input reads as it did. -/
def numDividesUptoRow : OpenClaim := { program := "ytlpifchimnnfdaadoor", sum := "3bf5fe8d907501873765dfa9a79e15d98ee5dbd3707b531c95aea0a0fb690c1b", func := "exitwave/exitwavelaw1.NumDivides", spec := "numDivides", inPlace := ["math.Float64bits", "math.Float64frombits"], named := ["internal/strconv.uint64pow10", "math/bits.deBruijn32tab", "math/bits.deBruijn64tab"], apart := false, laid := [("math/bits.deBruijn32tab", laid_math_bits_deBruijn32tab), ("math/bits.deBruijn64tab", laid_math_bits_deBruijn64tab), ("internal/strconv.uint64pow10", laid_internal_strconv_uint64pow10)], narrowed := true }
def NumDividesUptoSaid : Prop := numDividesUptoRow.holds Tryd.pinned (OpenSpec.upto numDividesSpec)

/-- 'exitwavelaw1.NumOver', WHERE WHAT IT READS IS OF BULK AT MOST 1048576: true; the input reads as it did. -/
def numOverUptoRow : OpenClaim := { program := "ytlpifchimnnfdaadoor", sum := "3bf5fe8d907501873765dfa9a79e15d98ee5dbd3707b531c95aea0a0fb690c1b", func := "exitwave/exitwavelaw1.NumOver", spec := "numOver", inPlace := ["math.Float64bits", "math.Float64frombits"], named := ["internal/strconv.uint64pow10", "math/bits.deBruijn32tab", "math/bits.deBruijn64tab"], apart := false, laid := [("math/bits.deBruijn32tab", laid_math_bits_deBruijn32tab), ("math/bits.deBruijn64tab", laid_math_bits_deBruijn64tab), ("internal/strconv.uint64pow10", laid_internal_strconv_uint64pow10)], narrowed := true }
def NumOverUptoSaid : Prop := numOverUptoRow.holds Tryd.pinned (OpenSpec.upto numOverSpec)

/-- 'exitwavelaw1.NumOne', WHERE WHAT IT READS IS OF BULK AT MOST 1048576: true; the input reads as it did. -/
def numOneUptoRow : OpenClaim := { program := "ytlpifchimnnfdaadoor", sum := "3bf5fe8d907501873765dfa9a79e15d98ee5dbd3707b531c95aea0a0fb690c1b", func := "exitwave/exitwavelaw1.NumOne", spec := "numOne", inPlace := ["math.Float64bits", "math.Float64frombits"], named := ["internal/strconv.uint64pow10", "math/bits.deBruijn32tab", "math/bits.deBruijn64tab"], loops := true, apart := false, laid := [("math/bits.deBruijn32tab", laid_math_bits_deBruijn32tab), ("math/bits.deBruijn64tab", laid_math_bits_deBruijn64tab), ("internal/strconv.uint64pow10", laid_internal_strconv_uint64pow10)], narrowed := true }
def NumOneUptoSaid : Prop := numOneUptoRow.holds Tryd.pinned (OpenSpec.upto numOneSpec)

/-- 'exitwavelaw1.NumNear', WHERE WHAT IT READS IS OF BULK AT MOST 1048576: true; the input reads as it did. -/
def numNearUptoRow : OpenClaim := { program := "ytlpifchimnnfdaadoor", sum := "3bf5fe8d907501873765dfa9a79e15d98ee5dbd3707b531c95aea0a0fb690c1b", func := "exitwave/exitwavelaw1.NumNear", spec := "numNear", inPlace := ["math.Float64bits", "math.Float64frombits"], named := ["internal/strconv.uint64pow10", "math/bits.deBruijn32tab", "math/bits.deBruijn64tab"], apart := false, laid := [("math/bits.deBruijn32tab", laid_math_bits_deBruijn32tab), ("math/bits.deBruijn64tab", laid_math_bits_deBruijn64tab), ("internal/strconv.uint64pow10", laid_internal_strconv_uint64pow10)], narrowed := true }
def NumNearUptoSaid : Prop := numNearUptoRow.holds Tryd.pinned (OpenSpec.upto numNearSpec)

/-- 'exitwavelaw1.NumExact', WHERE WHAT IT READS IS OF BULK AT MOST 1048576: true; the input reads as it did. -/
def numExactUptoRow : OpenClaim := { program := "ytlpifchimnnfdaadoor", sum := "3bf5fe8d907501873765dfa9a79e15d98ee5dbd3707b531c95aea0a0fb690c1b", func := "exitwave/exitwavelaw1.NumExact", spec := "numExact", inPlace := ["math.Float64bits", "math.Float64frombits", "math.archTrunc"], named := ["internal/strconv.uint64pow10", "math/bits.deBruijn32tab", "math/bits.deBruijn64tab"], apart := false, laid := [("math/bits.deBruijn32tab", laid_math_bits_deBruijn32tab), ("math/bits.deBruijn64tab", laid_math_bits_deBruijn64tab), ("internal/strconv.uint64pow10", laid_internal_strconv_uint64pow10)], narrowed := true }
def NumExactUptoSaid : Prop := numExactUptoRow.holds Tryd.pinned (OpenSpec.upto numExactSpec)

/-- 'exitwavelaw1.NumCompares', WHERE WHAT IT READS IS OF BULK AT MOST 1048576: true; the input reads as it did. -/
def numComparesUptoRow : OpenClaim := { program := "ytlpifchimnnfdaadoor", sum := "3bf5fe8d907501873765dfa9a79e15d98ee5dbd3707b531c95aea0a0fb690c1b", func := "exitwave/exitwavelaw1.NumCompares", spec := "numCompares", inPlace := ["math.Float64bits", "math.Float64frombits", "math.archTrunc"], recurses := true, named := ["internal/strconv.uint64pow10", "math/bits.deBruijn32tab", "math/bits.deBruijn64tab"], loops := true, apart := false, laid := [("math/bits.deBruijn32tab", laid_math_bits_deBruijn32tab), ("math/bits.deBruijn64tab", laid_math_bits_deBruijn64tab), ("internal/strconv.uint64pow10", laid_internal_strconv_uint64pow10)], narrowed := true }
def NumComparesUptoSaid : Prop := numComparesUptoRow.holds Tryd.pinned (OpenSpec.upto numComparesSpec)

/-- 'exitwavelaw1.NumOrder', WHERE WHAT IT READS IS OF BULK AT MOST 1048576: true; the input reads as it did. -/
def numOrderUptoRow : OpenClaim := { program := "ytlpifchimnnfdaadoor", sum := "3bf5fe8d907501873765dfa9a79e15d98ee5dbd3707b531c95aea0a0fb690c1b", func := "exitwave/exitwavelaw1.NumOrder", spec := "numOrder", inPlace := ["math.Float64bits", "math.Float64frombits", "math.archTrunc"], named := ["internal/strconv.uint64pow10", "math/bits.deBruijn32tab", "math/bits.deBruijn64tab"], loops := true, apart := false, laid := [("math/bits.deBruijn32tab", laid_math_bits_deBruijn32tab), ("math/bits.deBruijn64tab", laid_math_bits_deBruijn64tab), ("internal/strconv.uint64pow10", laid_internal_strconv_uint64pow10)], narrowed := true }
def NumOrderUptoSaid : Prop := numOrderUptoRow.holds Tryd.pinned (OpenSpec.upto numOrderSpec)

/-- 'exitwavelaw1.NumZeros', WHERE WHAT IT READS IS OF BULK AT MOST 1048576: true; the input reads as it did. -/
def numZerosUptoRow : OpenClaim := { program := "ytlpifchimnnfdaadoor", sum := "3bf5fe8d907501873765dfa9a79e15d98ee5dbd3707b531c95aea0a0fb690c1b", func := "exitwave/exitwavelaw1.NumZeros", spec := "numZeros", inPlace := ["math.Float64bits", "math.Float64frombits", "math.archTrunc"], named := ["internal/strconv.uint64pow10", "math/bits.deBruijn32tab", "math/bits.deBruijn64tab"], apart := false, laid := [("math/bits.deBruijn32tab", laid_math_bits_deBruijn32tab), ("math/bits.deBruijn64tab", laid_math_bits_deBruijn64tab), ("internal/strconv.uint64pow10", laid_internal_strconv_uint64pow10)], narrowed := true }
def NumZerosUptoSaid : Prop := numZerosUptoRow.holds Tryd.pinned (OpenSpec.upto numZerosSpec)

/-- 'exitwavelaw1.NumOnes', WHERE WHAT IT READS IS OF BULK AT MOST 1048576: true; the input reads as it did. -/
def numOnesUptoRow : OpenClaim := { program := "ytlpifchimnnfdaadoor", sum := "3bf5fe8d907501873765dfa9a79e15d98ee5dbd3707b531c95aea0a0fb690c1b", func := "exitwave/exitwavelaw1.NumOnes", spec := "numOnes", inPlace := ["math.Float64bits", "math.Float64frombits", "math.archTrunc", "math.archFloor", "math.archCeil"], named := ["internal/strconv.uint64pow10", "math/bits.deBruijn32tab", "math/bits.deBruijn64tab"], loops := true, apart := false, laid := [("math/bits.deBruijn32tab", laid_math_bits_deBruijn32tab), ("math/bits.deBruijn64tab", laid_math_bits_deBruijn64tab), ("internal/strconv.uint64pow10", laid_internal_strconv_uint64pow10)], narrowed := true }
def NumOnesUptoSaid : Prop := numOnesUptoRow.holds Tryd.pinned (OpenSpec.upto numOnesSpec)

/-- 'exitwavelaw1.NumWholes', WHERE WHAT IT READS IS OF BULK AT MOST 1048576: true; the input reads as it did. -/
def numWholesUptoRow : OpenClaim := { program := "ytlpifchimnnfdaadoor", sum := "3bf5fe8d907501873765dfa9a79e15d98ee5dbd3707b531c95aea0a0fb690c1b", func := "exitwave/exitwavelaw1.NumWholes", spec := "numWholes", inPlace := ["math.Float64bits", "math.Float64frombits", "math.archTrunc", "math.archFloor", "math.archCeil"], named := ["internal/strconv.uint64pow10", "math/bits.deBruijn32tab", "math/bits.deBruijn64tab"], apart := false, laid := [("math/bits.deBruijn32tab", laid_math_bits_deBruijn32tab), ("math/bits.deBruijn64tab", laid_math_bits_deBruijn64tab), ("internal/strconv.uint64pow10", laid_internal_strconv_uint64pow10)], narrowed := true }
def NumWholesUptoSaid : Prop := numWholesUptoRow.holds Tryd.pinned (OpenSpec.upto numWholesSpec)

/-- 'exitwavelaw1.NumBack', WHERE WHAT IT READS IS OF BULK AT MOST 1048576: true; the input reads as it did. -/
def numBackUptoRow : OpenClaim := { program := "ytlpifchimnnfdaadoor", sum := "3bf5fe8d907501873765dfa9a79e15d98ee5dbd3707b531c95aea0a0fb690c1b", func := "exitwave/exitwavelaw1.NumBack", spec := "numBack", inPlace := ["math.Float64bits", "math.Float64frombits", "math.archTrunc", "math.archFloor", "math.archCeil"], named := ["internal/strconv.uint64pow10", "math/bits.deBruijn32tab", "math/bits.deBruijn64tab"], apart := false, laid := [("math/bits.deBruijn32tab", laid_math_bits_deBruijn32tab), ("math/bits.deBruijn64tab", laid_math_bits_deBruijn64tab), ("internal/strconv.uint64pow10", laid_internal_strconv_uint64pow10)], narrowed := true }
def NumBackUptoSaid : Prop := numBackUptoRow.holds Tryd.pinned (OpenSpec.upto numBackSpec)

end Rows
end Go.Proofs.YtlpifchimnnfdaaDoor
