/-
  DERIVED. GIVEN WITH THE SEED: THE CARDS: each row of YtdhgejiacehpbaaGreatDoorRows.lean that lists a variable, with what it lists TIED to the program's text (the seventh form; the later family's looks); each row that meets fmt, with fmt's text TOLD by the authors' own Lean function (tested against real Go, not proved from fmt's source: count such statements apart). THE CARD IS WHAT COUNTS. Prove the row's statement (the work); the ties are given (YtdhgejiacehpbaaGreatDoorTie.lean); close each card by the builder's one call (the guide's Derived/Test/ToyasCard.lean, 'card_holds'). Laid BY PROGRAM, IN A SANDBOX (cutbox-door.mjs). By AI agents, Wed Nov 11 2026. No macro, syntax, notation, axiom, sorry.
-/
import Derived.Test.YtdhgejiacehpbaaGreatDoorRows
import GoSem.ClaimSeven
namespace Go.Proofs.YtdhgejiacehpbaaGreatDoor
namespace Rows

/-- THE TIED CARD OF 'haymowtop.HaymowLinks'. -/
def haymowLinksCard : Claim7 := { stood := { row := haymowLinksRow, standIns := [], harness := (true, "a1e18bf1738204685dc832b74c6572c06436274f3daf8c5ec747dbc980d73c7b"), looks := true }, kinds := [], alts := [], laidByText := true, laidKinds := [.data, .data], laidTests := true, laidLooks := .later }
def HaymowLinksCardSaid : Prop := Claim7.holds Tryz.pinned (.plain (OpenSpec.ofChange haymowLinksSpec)) haymowLinksCard

/-- THE SECOND FORM's CARD OF 'haymowtop.HaymowLinks'. -/
def haymowLinksUptoCard : Claim7 := { stood := { row := haymowLinksUptoRow, standIns := [], harness := (true, "a1e18bf1738204685dc832b74c6572c06436274f3daf8c5ec747dbc980d73c7b"), looks := true }, kinds := [], alts := [], laidByText := true, laidKinds := [.data, .data], laidTests := true, laidLooks := .later }
def HaymowLinksUptoCardSaid : Prop := Claim7.holds Tryz.pinned (.plain (OpenSpec.upto haymowLinksSpec)) haymowLinksUptoCard
end Rows
end Go.Proofs.YtdhgejiacehpbaaGreatDoor
