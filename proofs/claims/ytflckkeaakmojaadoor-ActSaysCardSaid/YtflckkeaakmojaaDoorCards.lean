/-
  DERIVED. GIVEN WITH THE SEED: THE CARDS: each row of YtflckkeaakmojaaDoorRows.lean that lists a variable, with what it lists TIED to the program's text (the seventh form; the later family's looks); each row that meets fmt, with fmt's text TOLD by the authors' own Lean function (tested against real Go, not proved from fmt's source: count such statements apart). THE CARD IS WHAT COUNTS. Prove the row's statement (the work); the ties are given (YtflckkeaakmojaaDoorTie.lean); close each card by the builder's one call (the guide's Derived/Test/ToyasCard.lean, 'card_holds'). Laid BY PROGRAM, IN A SANDBOX (cutbox-door.mjs). By AI agents, Wed Nov 11 2026. No macro, syntax, notation, axiom, sorry.
-/
import Derived.Test.YtflckkeaakmojaaDoorRows
import GoSem.ClaimSeven
namespace Go.Proofs.YtflckkeaakmojaaDoor
namespace Rows

/-- THE TIED CARD OF 'muezzinlaw5.ActBounds'. -/
def actBoundsCard : Claim7 := { stood := { row := actBoundsRow, standIns := [], harness := (true, "6ec77cfff99e43686093deb88c71c4f4e7e36a3b2bac646cacca839d6fa84553"), looks := true }, kinds := [], alts := [], laidByText := true, laidKinds := [.sentinel, .sentinel, .sentinel, .sentinel, .sentinel, .sentinel, .sentinel, .sentinel, .sentinel, .sentinel, .sentinel, .sentinel, .sentinel, .sentinel], laidTests := true, laidLooks := .later }
def ActBoundsCardSaid : Prop := Claim7.holds Tryd.pinned (.plain (OpenSpec.ofChange actBoundsSpec)) actBoundsCard

/-- THE TIED CARD OF 'muezzinlaw5.ActTurned'. -/
def actTurnedCard : Claim7 := { stood := { row := actTurnedRow, standIns := [], harness := (true, "6ec77cfff99e43686093deb88c71c4f4e7e36a3b2bac646cacca839d6fa84553"), looks := true }, kinds := [], alts := [], laidByText := true, laidKinds := [.sentinel, .sentinel, .sentinel, .sentinel, .sentinel, .sentinel, .sentinel, .sentinel, .sentinel, .sentinel, .sentinel, .sentinel, .sentinel, .sentinel], laidTests := true, laidLooks := .later }
def ActTurnedCardSaid : Prop := Claim7.holds Tryd.pinned (.plain (OpenSpec.ofChange actTurnedSpec)) actTurnedCard

/-- THE TIED CARD OF 'muezzinlaw5.ActSays'. -/
def actSaysCard : Claim7 := { stood := { row := actSaysRow, standIns := [], harness := (true, "6ec77cfff99e43686093deb88c71c4f4e7e36a3b2bac646cacca839d6fa84553"), looks := true }, kinds := [], alts := [], laidByText := true, laidKinds := [.sentinel, .sentinel, .sentinel, .sentinel, .sentinel, .sentinel, .sentinel, .sentinel, .sentinel, .sentinel, .sentinel, .sentinel, .sentinel, .sentinel], laidTests := true, laidLooks := .later }
def ActSaysCardSaid : Prop := Claim7.holds Tryd.pinned (.plain (OpenSpec.ofChange actSaysSpec)) actSaysCard

/-- THE TIED CARD OF 'muezzinlaw5.ActBack'. -/
def actBackCard : Claim7 := { stood := { row := actBackRow, standIns := [], harness := (true, "6ec77cfff99e43686093deb88c71c4f4e7e36a3b2bac646cacca839d6fa84553"), looks := true }, kinds := [], alts := [], laidByText := true, laidKinds := [.sentinel, .sentinel, .sentinel, .sentinel, .sentinel, .sentinel, .sentinel, .sentinel, .sentinel, .sentinel, .sentinel, .sentinel, .sentinel, .sentinel], laidTests := true, laidLooks := .later }
def ActBackCardSaid : Prop := Claim7.holds Tryd.pinned (.plain (OpenSpec.ofChange actBackSpec)) actBackCard

/-- THE SECOND FORM's CARD OF 'muezzinlaw5.ActBounds'. -/
def actBoundsUptoCard : Claim7 := { stood := { row := actBoundsUptoRow, standIns := [], harness := (true, "6ec77cfff99e43686093deb88c71c4f4e7e36a3b2bac646cacca839d6fa84553"), looks := true }, kinds := [], alts := [], laidByText := true, laidKinds := [.sentinel, .sentinel, .sentinel, .sentinel, .sentinel, .sentinel, .sentinel, .sentinel, .sentinel, .sentinel, .sentinel, .sentinel, .sentinel, .sentinel], laidTests := true, laidLooks := .later }
def ActBoundsUptoCardSaid : Prop := Claim7.holds Tryd.pinned (.plain (OpenSpec.upto actBoundsSpec)) actBoundsUptoCard

/-- THE SECOND FORM's CARD OF 'muezzinlaw5.ActTurned'. -/
def actTurnedUptoCard : Claim7 := { stood := { row := actTurnedUptoRow, standIns := [], harness := (true, "6ec77cfff99e43686093deb88c71c4f4e7e36a3b2bac646cacca839d6fa84553"), looks := true }, kinds := [], alts := [], laidByText := true, laidKinds := [.sentinel, .sentinel, .sentinel, .sentinel, .sentinel, .sentinel, .sentinel, .sentinel, .sentinel, .sentinel, .sentinel, .sentinel, .sentinel, .sentinel], laidTests := true, laidLooks := .later }
def ActTurnedUptoCardSaid : Prop := Claim7.holds Tryd.pinned (.plain (OpenSpec.upto actTurnedSpec)) actTurnedUptoCard

/-- THE SECOND FORM's CARD OF 'muezzinlaw5.ActSays'. -/
def actSaysUptoCard : Claim7 := { stood := { row := actSaysUptoRow, standIns := [], harness := (true, "6ec77cfff99e43686093deb88c71c4f4e7e36a3b2bac646cacca839d6fa84553"), looks := true }, kinds := [], alts := [], laidByText := true, laidKinds := [.sentinel, .sentinel, .sentinel, .sentinel, .sentinel, .sentinel, .sentinel, .sentinel, .sentinel, .sentinel, .sentinel, .sentinel, .sentinel, .sentinel], laidTests := true, laidLooks := .later }
def ActSaysUptoCardSaid : Prop := Claim7.holds Tryd.pinned (.plain (OpenSpec.upto actSaysSpec)) actSaysUptoCard

/-- THE SECOND FORM's CARD OF 'muezzinlaw5.ActBack'. -/
def actBackUptoCard : Claim7 := { stood := { row := actBackUptoRow, standIns := [], harness := (true, "6ec77cfff99e43686093deb88c71c4f4e7e36a3b2bac646cacca839d6fa84553"), looks := true }, kinds := [], alts := [], laidByText := true, laidKinds := [.sentinel, .sentinel, .sentinel, .sentinel, .sentinel, .sentinel, .sentinel, .sentinel, .sentinel, .sentinel, .sentinel, .sentinel, .sentinel, .sentinel], laidTests := true, laidLooks := .later }
def ActBackUptoCardSaid : Prop := Claim7.holds Tryd.pinned (.plain (OpenSpec.upto actBackSpec)) actBackUptoCard
end Rows
end Go.Proofs.YtflckkeaakmojaaDoor
