/-
  DERIVED. GIVEN WITH THE SEED: THE CARDS: each row of YtieajlpkiheebaaDoorRows.lean that lists a variable, with what it lists TIED to the program's text (the seventh form; the later family's looks); each row that meets fmt, with fmt's text TOLD by the authors' own Lean function (tested against real Go, not proved from fmt's source: count such statements apart). THE CARD IS WHAT COUNTS. Prove the row's statement (the work); the ties are given (YtieajlpkiheebaaDoorTie.lean); close each card by the builder's one call (the guide's Derived/Test/ToyasCard.lean, 'card_holds'). Laid BY PROGRAM, IN A SANDBOX (cutbox-door.mjs). By AI agents, Wed Nov 11 2026. No macro, syntax, notation, axiom, sorry.
-/
import Derived.Test.YtieajlpkiheebaaDoorRows
import GoSem.ClaimSeven
namespace Go.Proofs.YtieajlpkiheebaaDoor
namespace Rows

/-- THE TIED CARD OF 'haymowlaw06.SummaryEncodes'. -/
def summaryEncodesCard : Claim7 := { stood := { row := summaryEncodesRow, standIns := [], harness := (true, "20220833af8463d4c220470544162ca5368cc0776f35c7cf3f4a63ead57613db"), looks := false }, kinds := [], alts := [], laidByText := true, laidKinds := [.data], laidTests := true, laidLooks := .later }
def SummaryEncodesCardSaid : Prop := Claim7.holds Tryd.pinned (.plain (OpenSpec.ofChange summaryEncodesSpec)) summaryEncodesCard

/-- THE TIED CARD OF 'haymowlaw06.SummaryDecodes'. -/
def summaryDecodesCard : Claim7 := { stood := { row := summaryDecodesRow, standIns := [], harness := (true, "20220833af8463d4c220470544162ca5368cc0776f35c7cf3f4a63ead57613db"), looks := false }, kinds := [], alts := [], laidByText := true, laidKinds := [.data], laidTests := true, laidLooks := .later }
def SummaryDecodesCardSaid : Prop := Claim7.holds Tryd.pinned (.plain (OpenSpec.ofChange summaryDecodesSpec)) summaryDecodesCard

/-- THE TIED CARD OF 'haymowlaw06.SummaryWholes'. -/
def summaryWholesCard : Claim7 := { stood := { row := summaryWholesRow, standIns := [], harness := (true, "20220833af8463d4c220470544162ca5368cc0776f35c7cf3f4a63ead57613db"), looks := false }, kinds := [], alts := [], laidByText := true, laidKinds := [.data], laidTests := true, laidLooks := .later }
def SummaryWholesCardSaid : Prop := Claim7.holds Tryd.pinned (.plain (OpenSpec.ofChange summaryWholesSpec)) summaryWholesCard

/-- THE TIED CARD OF 'haymowlaw06.SummaryHolds'. -/
def summaryHoldsCard : Claim7 := { stood := { row := summaryHoldsRow, standIns := [], harness := (true, "20220833af8463d4c220470544162ca5368cc0776f35c7cf3f4a63ead57613db"), looks := false }, kinds := [], alts := [], laidByText := true, laidKinds := [.data], laidTests := true, laidLooks := .later }
def SummaryHoldsCardSaid : Prop := Claim7.holds Tryd.pinned (.plain (OpenSpec.ofChange summaryHoldsSpec)) summaryHoldsCard

/-- THE TIED CARD OF 'haymowlaw06.SummaryApart'. -/
def summaryApartCard : Claim7 := { stood := { row := summaryApartRow, standIns := [], harness := (true, "20220833af8463d4c220470544162ca5368cc0776f35c7cf3f4a63ead57613db"), looks := false }, kinds := [], alts := [], laidByText := true, laidKinds := [.data], laidTests := true, laidLooks := .later }
def SummaryApartCardSaid : Prop := Claim7.holds Tryd.pinned (.plain (OpenSpec.ofChange summaryApartSpec)) summaryApartCard

/-- THE SECOND FORM's CARD OF 'haymowlaw06.SummaryEncodes'. -/
def summaryEncodesUptoCard : Claim7 := { stood := { row := summaryEncodesUptoRow, standIns := [], harness := (true, "20220833af8463d4c220470544162ca5368cc0776f35c7cf3f4a63ead57613db"), looks := false }, kinds := [], alts := [], laidByText := true, laidKinds := [.data], laidTests := true, laidLooks := .later }
def SummaryEncodesUptoCardSaid : Prop := Claim7.holds Tryd.pinned (.plain (OpenSpec.upto summaryEncodesSpec)) summaryEncodesUptoCard

/-- THE SECOND FORM's CARD OF 'haymowlaw06.SummaryDecodes'. -/
def summaryDecodesUptoCard : Claim7 := { stood := { row := summaryDecodesUptoRow, standIns := [], harness := (true, "20220833af8463d4c220470544162ca5368cc0776f35c7cf3f4a63ead57613db"), looks := false }, kinds := [], alts := [], laidByText := true, laidKinds := [.data], laidTests := true, laidLooks := .later }
def SummaryDecodesUptoCardSaid : Prop := Claim7.holds Tryd.pinned (.plain (OpenSpec.upto summaryDecodesSpec)) summaryDecodesUptoCard

/-- THE SECOND FORM's CARD OF 'haymowlaw06.SummaryWholes'. -/
def summaryWholesUptoCard : Claim7 := { stood := { row := summaryWholesUptoRow, standIns := [], harness := (true, "20220833af8463d4c220470544162ca5368cc0776f35c7cf3f4a63ead57613db"), looks := false }, kinds := [], alts := [], laidByText := true, laidKinds := [.data], laidTests := true, laidLooks := .later }
def SummaryWholesUptoCardSaid : Prop := Claim7.holds Tryd.pinned (.plain (OpenSpec.upto summaryWholesSpec)) summaryWholesUptoCard

/-- THE SECOND FORM's CARD OF 'haymowlaw06.SummaryHolds'. -/
def summaryHoldsUptoCard : Claim7 := { stood := { row := summaryHoldsUptoRow, standIns := [], harness := (true, "20220833af8463d4c220470544162ca5368cc0776f35c7cf3f4a63ead57613db"), looks := false }, kinds := [], alts := [], laidByText := true, laidKinds := [.data], laidTests := true, laidLooks := .later }
def SummaryHoldsUptoCardSaid : Prop := Claim7.holds Tryd.pinned (.plain (OpenSpec.upto summaryHoldsSpec)) summaryHoldsUptoCard

/-- THE SECOND FORM's CARD OF 'haymowlaw06.SummaryApart'. -/
def summaryApartUptoCard : Claim7 := { stood := { row := summaryApartUptoRow, standIns := [], harness := (true, "20220833af8463d4c220470544162ca5368cc0776f35c7cf3f4a63ead57613db"), looks := false }, kinds := [], alts := [], laidByText := true, laidKinds := [.data], laidTests := true, laidLooks := .later }
def SummaryApartUptoCardSaid : Prop := Claim7.holds Tryd.pinned (.plain (OpenSpec.upto summaryApartSpec)) summaryApartUptoCard
end Rows
end Go.Proofs.YtieajlpkiheebaaDoor
