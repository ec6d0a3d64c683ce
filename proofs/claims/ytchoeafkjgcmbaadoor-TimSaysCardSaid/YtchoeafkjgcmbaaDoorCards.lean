/-
  DERIVED. GIVEN WITH THE SEED: THE CARDS: each row of YtchoeafkjgcmbaaDoorRows.lean that lists a variable, with what it lists TIED to the program's text (the seventh form; the later family's looks); each row that meets fmt, with fmt's text TOLD by the authors' own Lean function (tested against real Go, not proved from fmt's source: count such statements apart). THE CARD IS WHAT COUNTS. Prove the row's statement (the work); the ties are given (YtchoeafkjgcmbaaDoorTie.lean); close each card by the builder's one call (the guide's Derived/Test/ToyasCard.lean, 'card_holds'). Laid BY PROGRAM, IN A SANDBOX (cutbox-door.mjs). By AI agents, Wed Nov 11 2026. No macro, syntax, notation, axiom, sorry.
-/
import Derived.Test.YtchoeafkjgcmbaaDoorRows
import GoSem.ClaimSeven
namespace Go.Proofs.YtchoeafkjgcmbaaDoor
namespace Rows

/-- THE TIED CARD OF 'muezzinlaw6.TimTurned'. -/
def timTurnedCard : Claim7 := { stood := { row := timTurnedRow, standIns := [], harness := (true, "c2155ac085531df5a2fdbaa0f5fb59ce72c92814807d50c5bd7dc908b32b698b"), looks := true }, kinds := [], alts := [], laidByText := true, laidKinds := [.sentinel, .sentinel, .sentinel, .sentinel], laidTests := true, laidLooks := .later }
def TimTurnedCardSaid : Prop := Claim7.holds Tryd.pinned (.plain (OpenSpec.ofChange timTurnedSpec)) timTurnedCard

/-- THE TIED CARD OF 'muezzinlaw6.TimSays'. -/
def timSaysCard : Claim7 := { stood := { row := timSaysRow, standIns := [], harness := (true, "c2155ac085531df5a2fdbaa0f5fb59ce72c92814807d50c5bd7dc908b32b698b"), looks := true }, kinds := [], alts := [], laidByText := true, laidKinds := [.sentinel, .sentinel, .sentinel, .sentinel, .sentinel, .sentinel, .sentinel, .sentinel, .sentinel, .sentinel, .sentinel, .sentinel, .sentinel, .sentinel], laidTests := true, laidLooks := .later }
def TimSaysCardSaid : Prop := Claim7.holds Tryd.pinned (.plain (OpenSpec.ofChange timSaysSpec)) timSaysCard

/-- THE TIED CARD OF 'muezzinlaw6.TimBack'. -/
def timBackCard : Claim7 := { stood := { row := timBackRow, standIns := [], harness := (true, "c2155ac085531df5a2fdbaa0f5fb59ce72c92814807d50c5bd7dc908b32b698b"), looks := true }, kinds := [], alts := [], laidByText := true, laidKinds := [.sentinel, .sentinel, .sentinel, .sentinel], laidTests := true, laidLooks := .later }
def TimBackCardSaid : Prop := Claim7.holds Tryd.pinned (.plain (OpenSpec.ofChange timBackSpec)) timBackCard

/-- THE TIED CARD OF 'muezzinlaw6.TimOne'. -/
def timOneCard : Claim7 := { stood := { row := timOneRow, standIns := [], harness := (true, "c2155ac085531df5a2fdbaa0f5fb59ce72c92814807d50c5bd7dc908b32b698b"), looks := true }, kinds := [], alts := [], laidByText := true, laidKinds := [.sentinel, .sentinel, .sentinel, .sentinel], laidTests := true, laidLooks := .later }
def TimOneCardSaid : Prop := Claim7.holds Tryd.pinned (.plain (OpenSpec.ofChange timOneSpec)) timOneCard

/-- THE TIED CARD OF 'muezzinlaw6.TimWrong'. -/
def timWrongCard : Claim7 := { stood := { row := timWrongRow, standIns := [], harness := (true, "c2155ac085531df5a2fdbaa0f5fb59ce72c92814807d50c5bd7dc908b32b698b"), looks := true }, kinds := [], alts := [], laidByText := true, laidKinds := [.sentinel, .sentinel, .sentinel, .sentinel, .sentinel, .sentinel, .sentinel, .sentinel, .sentinel, .sentinel, .sentinel, .sentinel, .sentinel, .sentinel], laidTests := true, laidLooks := .later }
def TimWrongCardSaid : Prop := Claim7.holds Tryd.pinned (.plain (OpenSpec.ofChange timWrongSpec)) timWrongCard

/-- THE SECOND FORM's CARD OF 'muezzinlaw6.TimTurned'. -/
def timTurnedUptoCard : Claim7 := { stood := { row := timTurnedUptoRow, standIns := [], harness := (true, "c2155ac085531df5a2fdbaa0f5fb59ce72c92814807d50c5bd7dc908b32b698b"), looks := true }, kinds := [], alts := [], laidByText := true, laidKinds := [.sentinel, .sentinel, .sentinel, .sentinel], laidTests := true, laidLooks := .later }
def TimTurnedUptoCardSaid : Prop := Claim7.holds Tryd.pinned (.plain (OpenSpec.upto timTurnedSpec)) timTurnedUptoCard

/-- THE SECOND FORM's CARD OF 'muezzinlaw6.TimSays'. -/
def timSaysUptoCard : Claim7 := { stood := { row := timSaysUptoRow, standIns := [], harness := (true, "c2155ac085531df5a2fdbaa0f5fb59ce72c92814807d50c5bd7dc908b32b698b"), looks := true }, kinds := [], alts := [], laidByText := true, laidKinds := [.sentinel, .sentinel, .sentinel, .sentinel, .sentinel, .sentinel, .sentinel, .sentinel, .sentinel, .sentinel, .sentinel, .sentinel, .sentinel, .sentinel], laidTests := true, laidLooks := .later }
def TimSaysUptoCardSaid : Prop := Claim7.holds Tryd.pinned (.plain (OpenSpec.upto timSaysSpec)) timSaysUptoCard

/-- THE SECOND FORM's CARD OF 'muezzinlaw6.TimBack'. -/
def timBackUptoCard : Claim7 := { stood := { row := timBackUptoRow, standIns := [], harness := (true, "c2155ac085531df5a2fdbaa0f5fb59ce72c92814807d50c5bd7dc908b32b698b"), looks := true }, kinds := [], alts := [], laidByText := true, laidKinds := [.sentinel, .sentinel, .sentinel, .sentinel], laidTests := true, laidLooks := .later }
def TimBackUptoCardSaid : Prop := Claim7.holds Tryd.pinned (.plain (OpenSpec.upto timBackSpec)) timBackUptoCard

/-- THE SECOND FORM's CARD OF 'muezzinlaw6.TimOne'. -/
def timOneUptoCard : Claim7 := { stood := { row := timOneUptoRow, standIns := [], harness := (true, "c2155ac085531df5a2fdbaa0f5fb59ce72c92814807d50c5bd7dc908b32b698b"), looks := true }, kinds := [], alts := [], laidByText := true, laidKinds := [.sentinel, .sentinel, .sentinel, .sentinel], laidTests := true, laidLooks := .later }
def TimOneUptoCardSaid : Prop := Claim7.holds Tryd.pinned (.plain (OpenSpec.upto timOneSpec)) timOneUptoCard

/-- THE SECOND FORM's CARD OF 'muezzinlaw6.TimWrong'. -/
def timWrongUptoCard : Claim7 := { stood := { row := timWrongUptoRow, standIns := [], harness := (true, "c2155ac085531df5a2fdbaa0f5fb59ce72c92814807d50c5bd7dc908b32b698b"), looks := true }, kinds := [], alts := [], laidByText := true, laidKinds := [.sentinel, .sentinel, .sentinel, .sentinel, .sentinel, .sentinel, .sentinel, .sentinel, .sentinel, .sentinel, .sentinel, .sentinel, .sentinel, .sentinel], laidTests := true, laidLooks := .later }
def TimWrongUptoCardSaid : Prop := Claim7.holds Tryd.pinned (.plain (OpenSpec.upto timWrongSpec)) timWrongUptoCard
end Rows
end Go.Proofs.YtchoeafkjgcmbaaDoor
