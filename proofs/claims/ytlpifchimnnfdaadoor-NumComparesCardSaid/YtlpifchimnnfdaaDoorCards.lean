/-
  DERIVED. GIVEN WITH THE SEED: THE CARDS: each row of YtlpifchimnnfdaaDoorRows.lean that lists a variable, with what it lists TIED to the program's text (the seventh form; the later family's looks); each row that meets fmt, with fmt's text TOLD by the authors' own Lean function (tested against real Go, not proved from fmt's source: count such statements apart). THE CARD IS WHAT COUNTS. Prove the row's statement (the work); the ties are given (YtlpifchimnnfdaaDoorTie.lean); close each card by the builder's one call (the guide's Derived/Test/ToyasCard.lean, 'card_holds'). Laid BY PROGRAM, IN A SANDBOX (cutbox-door.mjs). By AI agents, Wed Nov 11 2026. No macro, syntax, notation, axiom, sorry.
-/
import Derived.Test.YtlpifchimnnfdaaDoorRows
import GoSem.ClaimSeven
namespace Go.Proofs.YtlpifchimnnfdaaDoor
namespace Rows

/-- THE TIED CARD OF 'exitwavelaw1.NumMakes'. -/
def numMakesCard : Claim7 := { stood := { row := numMakesRow, standIns := [], harness := (true, "14a0af6baacc234c15416c416731ce4b874d9485d41e02b9c7cb0b40f8dca6fb"), looks := false }, kinds := [], alts := [], laidByText := true, laidKinds := [.data, .data, .data], laidTests := true, laidLooks := .later }
def NumMakesCardSaid : Prop := Claim7.holds Tryd.pinned (.plain (OpenSpec.ofChange numMakesSpec)) numMakesCard

/-- THE TIED CARD OF 'exitwavelaw1.NumOps'. -/
def numOpsCard : Claim7 := { stood := { row := numOpsRow, standIns := [], harness := (true, "14a0af6baacc234c15416c416731ce4b874d9485d41e02b9c7cb0b40f8dca6fb"), looks := false }, kinds := [], alts := [], laidByText := true, laidKinds := [.data, .data, .data], laidTests := true, laidLooks := .later }
def NumOpsCardSaid : Prop := Claim7.holds Tryd.pinned (.plain (OpenSpec.ofChange numOpsSpec)) numOpsCard

/-- THE TIED CARD OF 'exitwavelaw1.NumFinite'. -/
def numFiniteCard : Claim7 := { stood := { row := numFiniteRow, standIns := [], harness := (true, "14a0af6baacc234c15416c416731ce4b874d9485d41e02b9c7cb0b40f8dca6fb"), looks := false }, kinds := [], alts := [], laidByText := true, laidKinds := [.data, .data, .data], laidTests := true, laidLooks := .later }
def NumFiniteCardSaid : Prop := Claim7.holds Tryd.pinned (.plain (OpenSpec.ofChange numFiniteSpec)) numFiniteCard

/-- THE TIED CARD OF 'exitwavelaw1.NumDivides'. -/
def numDividesCard : Claim7 := { stood := { row := numDividesRow, standIns := [], harness := (true, "14a0af6baacc234c15416c416731ce4b874d9485d41e02b9c7cb0b40f8dca6fb"), looks := false }, kinds := [], alts := [], laidByText := true, laidKinds := [.data, .data, .data], laidTests := true, laidLooks := .later }
def NumDividesCardSaid : Prop := Claim7.holds Tryd.pinned (.plain (OpenSpec.ofChange numDividesSpec)) numDividesCard

/-- THE TIED CARD OF 'exitwavelaw1.NumOver'. -/
def numOverCard : Claim7 := { stood := { row := numOverRow, standIns := [], harness := (true, "14a0af6baacc234c15416c416731ce4b874d9485d41e02b9c7cb0b40f8dca6fb"), looks := false }, kinds := [], alts := [], laidByText := true, laidKinds := [.data, .data, .data], laidTests := true, laidLooks := .later }
def NumOverCardSaid : Prop := Claim7.holds Tryd.pinned (.plain (OpenSpec.ofChange numOverSpec)) numOverCard

/-- THE TIED CARD OF 'exitwavelaw1.NumOne'. -/
def numOneCard : Claim7 := { stood := { row := numOneRow, standIns := [], harness := (true, "14a0af6baacc234c15416c416731ce4b874d9485d41e02b9c7cb0b40f8dca6fb"), looks := false }, kinds := [], alts := [], laidByText := true, laidKinds := [.data, .data, .data], laidTests := true, laidLooks := .later }
def NumOneCardSaid : Prop := Claim7.holds Tryd.pinned (.plain (OpenSpec.ofChange numOneSpec)) numOneCard

/-- THE TIED CARD OF 'exitwavelaw1.NumNear'. -/
def numNearCard : Claim7 := { stood := { row := numNearRow, standIns := [], harness := (true, "14a0af6baacc234c15416c416731ce4b874d9485d41e02b9c7cb0b40f8dca6fb"), looks := false }, kinds := [], alts := [], laidByText := true, laidKinds := [.data, .data, .data], laidTests := true, laidLooks := .later }
def NumNearCardSaid : Prop := Claim7.holds Tryd.pinned (.plain (OpenSpec.ofChange numNearSpec)) numNearCard

/-- THE TIED CARD OF 'exitwavelaw1.NumExact'. -/
def numExactCard : Claim7 := { stood := { row := numExactRow, standIns := [], harness := (true, "14a0af6baacc234c15416c416731ce4b874d9485d41e02b9c7cb0b40f8dca6fb"), looks := false }, kinds := [], alts := [], laidByText := true, laidKinds := [.data, .data, .data], laidTests := true, laidLooks := .later }
def NumExactCardSaid : Prop := Claim7.holds Tryd.pinned (.plain (OpenSpec.ofChange numExactSpec)) numExactCard

/-- THE TIED CARD OF 'exitwavelaw1.NumCompares'. -/
def numComparesCard : Claim7 := { stood := { row := numComparesRow, standIns := [], harness := (true, "14a0af6baacc234c15416c416731ce4b874d9485d41e02b9c7cb0b40f8dca6fb"), looks := false }, kinds := [], alts := [], laidByText := true, laidKinds := [.data, .data, .data], laidTests := true, laidLooks := .later }
def NumComparesCardSaid : Prop := Claim7.holds Tryd.pinned (.plain (OpenSpec.ofChange numComparesSpec)) numComparesCard

/-- THE TIED CARD OF 'exitwavelaw1.NumOrder'. -/
def numOrderCard : Claim7 := { stood := { row := numOrderRow, standIns := [], harness := (true, "14a0af6baacc234c15416c416731ce4b874d9485d41e02b9c7cb0b40f8dca6fb"), looks := false }, kinds := [], alts := [], laidByText := true, laidKinds := [.data, .data, .data], laidTests := true, laidLooks := .later }
def NumOrderCardSaid : Prop := Claim7.holds Tryd.pinned (.plain (OpenSpec.ofChange numOrderSpec)) numOrderCard

/-- THE TIED CARD OF 'exitwavelaw1.NumZeros'. -/
def numZerosCard : Claim7 := { stood := { row := numZerosRow, standIns := [], harness := (true, "14a0af6baacc234c15416c416731ce4b874d9485d41e02b9c7cb0b40f8dca6fb"), looks := false }, kinds := [], alts := [], laidByText := true, laidKinds := [.data, .data, .data], laidTests := true, laidLooks := .later }
def NumZerosCardSaid : Prop := Claim7.holds Tryd.pinned (.plain (OpenSpec.ofChange numZerosSpec)) numZerosCard

/-- THE TIED CARD OF 'exitwavelaw1.NumOnes'. -/
def numOnesCard : Claim7 := { stood := { row := numOnesRow, standIns := [], harness := (true, "14a0af6baacc234c15416c416731ce4b874d9485d41e02b9c7cb0b40f8dca6fb"), looks := false }, kinds := [], alts := [], laidByText := true, laidKinds := [.data, .data, .data], laidTests := true, laidLooks := .later }
def NumOnesCardSaid : Prop := Claim7.holds Tryd.pinned (.plain (OpenSpec.ofChange numOnesSpec)) numOnesCard

/-- THE TIED CARD OF 'exitwavelaw1.NumWholes'. -/
def numWholesCard : Claim7 := { stood := { row := numWholesRow, standIns := [], harness := (true, "14a0af6baacc234c15416c416731ce4b874d9485d41e02b9c7cb0b40f8dca6fb"), looks := false }, kinds := [], alts := [], laidByText := true, laidKinds := [.data, .data, .data], laidTests := true, laidLooks := .later }
def NumWholesCardSaid : Prop := Claim7.holds Tryd.pinned (.plain (OpenSpec.ofChange numWholesSpec)) numWholesCard

/-- THE TIED CARD OF 'exitwavelaw1.NumBack'. -/
def numBackCard : Claim7 := { stood := { row := numBackRow, standIns := [], harness := (true, "14a0af6baacc234c15416c416731ce4b874d9485d41e02b9c7cb0b40f8dca6fb"), looks := false }, kinds := [], alts := [], laidByText := true, laidKinds := [.data, .data, .data], laidTests := true, laidLooks := .later }
def NumBackCardSaid : Prop := Claim7.holds Tryd.pinned (.plain (OpenSpec.ofChange numBackSpec)) numBackCard

/-- THE SECOND FORM's CARD OF 'exitwavelaw1.NumMakes'. -/
def numMakesUptoCard : Claim7 := { stood := { row := numMakesUptoRow, standIns := [], harness := (true, "14a0af6baacc234c15416c416731ce4b874d9485d41e02b9c7cb0b40f8dca6fb"), looks := false }, kinds := [], alts := [], laidByText := true, laidKinds := [.data, .data, .data], laidTests := true, laidLooks := .later }
def NumMakesUptoCardSaid : Prop := Claim7.holds Tryd.pinned (.plain (OpenSpec.upto numMakesSpec)) numMakesUptoCard

/-- THE SECOND FORM's CARD OF 'exitwavelaw1.NumOps'. -/
def numOpsUptoCard : Claim7 := { stood := { row := numOpsUptoRow, standIns := [], harness := (true, "14a0af6baacc234c15416c416731ce4b874d9485d41e02b9c7cb0b40f8dca6fb"), looks := false }, kinds := [], alts := [], laidByText := true, laidKinds := [.data, .data, .data], laidTests := true, laidLooks := .later }
def NumOpsUptoCardSaid : Prop := Claim7.holds Tryd.pinned (.plain (OpenSpec.upto numOpsSpec)) numOpsUptoCard

/-- THE SECOND FORM's CARD OF 'exitwavelaw1.NumFinite'. -/
def numFiniteUptoCard : Claim7 := { stood := { row := numFiniteUptoRow, standIns := [], harness := (true, "14a0af6baacc234c15416c416731ce4b874d9485d41e02b9c7cb0b40f8dca6fb"), looks := false }, kinds := [], alts := [], laidByText := true, laidKinds := [.data, .data, .data], laidTests := true, laidLooks := .later }
def NumFiniteUptoCardSaid : Prop := Claim7.holds Tryd.pinned (.plain (OpenSpec.upto numFiniteSpec)) numFiniteUptoCard

/-- THE SECOND FORM's CARD OF 'exitwavelaw1.NumDivides'. -/
def numDividesUptoCard : Claim7 := { stood := { row := numDividesUptoRow, standIns := [], harness := (true, "14a0af6baacc234c15416c416731ce4b874d9485d41e02b9c7cb0b40f8dca6fb"), looks := false }, kinds := [], alts := [], laidByText := true, laidKinds := [.data, .data, .data], laidTests := true, laidLooks := .later }
def NumDividesUptoCardSaid : Prop := Claim7.holds Tryd.pinned (.plain (OpenSpec.upto numDividesSpec)) numDividesUptoCard

/-- THE SECOND FORM's CARD OF 'exitwavelaw1.NumOver'. -/
def numOverUptoCard : Claim7 := { stood := { row := numOverUptoRow, standIns := [], harness := (true, "14a0af6baacc234c15416c416731ce4b874d9485d41e02b9c7cb0b40f8dca6fb"), looks := false }, kinds := [], alts := [], laidByText := true, laidKinds := [.data, .data, .data], laidTests := true, laidLooks := .later }
def NumOverUptoCardSaid : Prop := Claim7.holds Tryd.pinned (.plain (OpenSpec.upto numOverSpec)) numOverUptoCard

/-- THE SECOND FORM's CARD OF 'exitwavelaw1.NumOne'. -/
def numOneUptoCard : Claim7 := { stood := { row := numOneUptoRow, standIns := [], harness := (true, "14a0af6baacc234c15416c416731ce4b874d9485d41e02b9c7cb0b40f8dca6fb"), looks := false }, kinds := [], alts := [], laidByText := true, laidKinds := [.data, .data, .data], laidTests := true, laidLooks := .later }
def NumOneUptoCardSaid : Prop := Claim7.holds Tryd.pinned (.plain (OpenSpec.upto numOneSpec)) numOneUptoCard

/-- THE SECOND FORM's CARD OF 'exitwavelaw1.NumNear'. -/
def numNearUptoCard : Claim7 := { stood := { row := numNearUptoRow, standIns := [], harness := (true, "14a0af6baacc234c15416c416731ce4b874d9485d41e02b9c7cb0b40f8dca6fb"), looks := false }, kinds := [], alts := [], laidByText := true, laidKinds := [.data, .data, .data], laidTests := true, laidLooks := .later }
def NumNearUptoCardSaid : Prop := Claim7.holds Tryd.pinned (.plain (OpenSpec.upto numNearSpec)) numNearUptoCard

/-- THE SECOND FORM's CARD OF 'exitwavelaw1.NumExact'. -/
def numExactUptoCard : Claim7 := { stood := { row := numExactUptoRow, standIns := [], harness := (true, "14a0af6baacc234c15416c416731ce4b874d9485d41e02b9c7cb0b40f8dca6fb"), looks := false }, kinds := [], alts := [], laidByText := true, laidKinds := [.data, .data, .data], laidTests := true, laidLooks := .later }
def NumExactUptoCardSaid : Prop := Claim7.holds Tryd.pinned (.plain (OpenSpec.upto numExactSpec)) numExactUptoCard

/-- THE SECOND FORM's CARD OF 'exitwavelaw1.NumCompares'. -/
def numComparesUptoCard : Claim7 := { stood := { row := numComparesUptoRow, standIns := [], harness := (true, "14a0af6baacc234c15416c416731ce4b874d9485d41e02b9c7cb0b40f8dca6fb"), looks := false }, kinds := [], alts := [], laidByText := true, laidKinds := [.data, .data, .data], laidTests := true, laidLooks := .later }
def NumComparesUptoCardSaid : Prop := Claim7.holds Tryd.pinned (.plain (OpenSpec.upto numComparesSpec)) numComparesUptoCard

/-- THE SECOND FORM's CARD OF 'exitwavelaw1.NumOrder'. -/
def numOrderUptoCard : Claim7 := { stood := { row := numOrderUptoRow, standIns := [], harness := (true, "14a0af6baacc234c15416c416731ce4b874d9485d41e02b9c7cb0b40f8dca6fb"), looks := false }, kinds := [], alts := [], laidByText := true, laidKinds := [.data, .data, .data], laidTests := true, laidLooks := .later }
def NumOrderUptoCardSaid : Prop := Claim7.holds Tryd.pinned (.plain (OpenSpec.upto numOrderSpec)) numOrderUptoCard

/-- THE SECOND FORM's CARD OF 'exitwavelaw1.NumZeros'. -/
def numZerosUptoCard : Claim7 := { stood := { row := numZerosUptoRow, standIns := [], harness := (true, "14a0af6baacc234c15416c416731ce4b874d9485d41e02b9c7cb0b40f8dca6fb"), looks := false }, kinds := [], alts := [], laidByText := true, laidKinds := [.data, .data, .data], laidTests := true, laidLooks := .later }
def NumZerosUptoCardSaid : Prop := Claim7.holds Tryd.pinned (.plain (OpenSpec.upto numZerosSpec)) numZerosUptoCard

/-- THE SECOND FORM's CARD OF 'exitwavelaw1.NumOnes'. -/
def numOnesUptoCard : Claim7 := { stood := { row := numOnesUptoRow, standIns := [], harness := (true, "14a0af6baacc234c15416c416731ce4b874d9485d41e02b9c7cb0b40f8dca6fb"), looks := false }, kinds := [], alts := [], laidByText := true, laidKinds := [.data, .data, .data], laidTests := true, laidLooks := .later }
def NumOnesUptoCardSaid : Prop := Claim7.holds Tryd.pinned (.plain (OpenSpec.upto numOnesSpec)) numOnesUptoCard

/-- THE SECOND FORM's CARD OF 'exitwavelaw1.NumWholes'. -/
def numWholesUptoCard : Claim7 := { stood := { row := numWholesUptoRow, standIns := [], harness := (true, "14a0af6baacc234c15416c416731ce4b874d9485d41e02b9c7cb0b40f8dca6fb"), looks := false }, kinds := [], alts := [], laidByText := true, laidKinds := [.data, .data, .data], laidTests := true, laidLooks := .later }
def NumWholesUptoCardSaid : Prop := Claim7.holds Tryd.pinned (.plain (OpenSpec.upto numWholesSpec)) numWholesUptoCard

/-- THE SECOND FORM's CARD OF 'exitwavelaw1.NumBack'. -/
def numBackUptoCard : Claim7 := { stood := { row := numBackUptoRow, standIns := [], harness := (true, "14a0af6baacc234c15416c416731ce4b874d9485d41e02b9c7cb0b40f8dca6fb"), looks := false }, kinds := [], alts := [], laidByText := true, laidKinds := [.data, .data, .data], laidTests := true, laidLooks := .later }
def NumBackUptoCardSaid : Prop := Claim7.holds Tryd.pinned (.plain (OpenSpec.upto numBackSpec)) numBackUptoCard
end Rows
end Go.Proofs.YtlpifchimnnfdaaDoor
