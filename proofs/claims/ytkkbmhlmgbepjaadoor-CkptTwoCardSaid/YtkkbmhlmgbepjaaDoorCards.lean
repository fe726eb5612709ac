/-
  DERIVED. GIVEN WITH THE SEED: THE CARDS: each row of YtkkbmhlmgbepjaaDoorRows.lean that lists a variable, with what it lists TIED to the program's text (the seventh form; the later family's looks); each row that meets fmt, with fmt's text TOLD by the authors' own Lean function (tested against real Go, not proved from fmt's source: count such statements apart). THE CARD IS WHAT COUNTS. Prove the row's statement (the work); the ties are given (YtkkbmhlmgbepjaaDoorTie.lean); close each card by the builder's one call (the guide's Derived/Test/ToyasCard.lean, 'card_holds'). Laid BY PROGRAM, IN A SANDBOX (cutbox-door.mjs). By AI agents, Wed Nov 11 2026. No macro, syntax, notation, axiom, sorry.
-/
import Derived.Test.YtkkbmhlmgbepjaaDoorRows
import GoSem.ClaimSeven
namespace Go.Proofs.YtkkbmhlmgbepjaaDoor
namespace Rows

/-- THE TIED CARD OF 'haymowlaw13.CkptCodes'. -/
def ckptCodesCard : Claim7 := { stood := { row := ckptCodesRow, standIns := [], harness := (true, "2a1ddd7e1ac32f282118b0705537848fa6a743d639ae6fc35efda241523922bd"), looks := false }, kinds := [], alts := [], laidByText := true, laidKinds := [.data], laidTests := true, laidLooks := .later }
def CkptCodesCardSaid : Prop := Claim7.holds Tryd.pinned (.plain (OpenSpec.ofChange ckptCodesSpec)) ckptCodesCard

/-- THE TIED CARD OF 'haymowlaw13.CkptChooses'. -/
def ckptChoosesCard : Claim7 := { stood := { row := ckptChoosesRow, standIns := [], harness := (true, "2a1ddd7e1ac32f282118b0705537848fa6a743d639ae6fc35efda241523922bd"), looks := false }, kinds := [], alts := [], laidByText := true, laidKinds := [.data], laidTests := true, laidLooks := .later }
def CkptChoosesCardSaid : Prop := Claim7.holds Tryd.pinned (.plain (OpenSpec.ofChange ckptChoosesSpec)) ckptChoosesCard

/-- THE TIED CARD OF 'haymowlaw13.CkptKeeps'. -/
def ckptKeepsCard : Claim7 := { stood := { row := ckptKeepsRow, standIns := [], harness := (true, "2a1ddd7e1ac32f282118b0705537848fa6a743d639ae6fc35efda241523922bd"), looks := false }, kinds := [], alts := [], laidByText := true, laidKinds := [.data], laidTests := true, laidLooks := .later }
def CkptKeepsCardSaid : Prop := Claim7.holds Tryd.pinned (.plain (OpenSpec.ofChange ckptKeepsSpec)) ckptKeepsCard

/-- THE TIED CARD OF 'haymowlaw13.CkptTwo'. -/
def ckptTwoCard : Claim7 := { stood := { row := ckptTwoRow, standIns := [], harness := (true, "2a1ddd7e1ac32f282118b0705537848fa6a743d639ae6fc35efda241523922bd"), looks := false }, kinds := [], alts := [], laidByText := true, laidKinds := [.data], laidTests := true, laidLooks := .later }
def CkptTwoCardSaid : Prop := Claim7.holds Tryd.pinned (.plain (OpenSpec.ofChange ckptTwoSpec)) ckptTwoCard

/-- THE SECOND FORM's CARD OF 'haymowlaw13.CkptCodes'. -/
def ckptCodesUptoCard : Claim7 := { stood := { row := ckptCodesUptoRow, standIns := [], harness := (true, "2a1ddd7e1ac32f282118b0705537848fa6a743d639ae6fc35efda241523922bd"), looks := false }, kinds := [], alts := [], laidByText := true, laidKinds := [.data], laidTests := true, laidLooks := .later }
def CkptCodesUptoCardSaid : Prop := Claim7.holds Tryd.pinned (.plain (OpenSpec.upto ckptCodesSpec)) ckptCodesUptoCard

/-- THE SECOND FORM's CARD OF 'haymowlaw13.CkptChooses'. -/
def ckptChoosesUptoCard : Claim7 := { stood := { row := ckptChoosesUptoRow, standIns := [], harness := (true, "2a1ddd7e1ac32f282118b0705537848fa6a743d639ae6fc35efda241523922bd"), looks := false }, kinds := [], alts := [], laidByText := true, laidKinds := [.data], laidTests := true, laidLooks := .later }
def CkptChoosesUptoCardSaid : Prop := Claim7.holds Tryd.pinned (.plain (OpenSpec.upto ckptChoosesSpec)) ckptChoosesUptoCard

/-- THE SECOND FORM's CARD OF 'haymowlaw13.CkptKeeps'. -/
def ckptKeepsUptoCard : Claim7 := { stood := { row := ckptKeepsUptoRow, standIns := [], harness := (true, "2a1ddd7e1ac32f282118b0705537848fa6a743d639ae6fc35efda241523922bd"), looks := false }, kinds := [], alts := [], laidByText := true, laidKinds := [.data], laidTests := true, laidLooks := .later }
def CkptKeepsUptoCardSaid : Prop := Claim7.holds Tryd.pinned (.plain (OpenSpec.upto ckptKeepsSpec)) ckptKeepsUptoCard

/-- THE SECOND FORM's CARD OF 'haymowlaw13.CkptTwo'. -/
def ckptTwoUptoCard : Claim7 := { stood := { row := ckptTwoUptoRow, standIns := [], harness := (true, "2a1ddd7e1ac32f282118b0705537848fa6a743d639ae6fc35efda241523922bd"), looks := false }, kinds := [], alts := [], laidByText := true, laidKinds := [.data], laidTests := true, laidLooks := .later }
def CkptTwoUptoCardSaid : Prop := Claim7.holds Tryd.pinned (.plain (OpenSpec.upto ckptTwoSpec)) ckptTwoUptoCard
end Rows
end Go.Proofs.YtkkbmhlmgbepjaaDoor
