/-
  DERIVED. GIVEN WITH THE SEED: THE CARDS: each row of YtadcpoglkmklhaaDoorRows.lean that lists a variable, with what it lists TIED to the program's text (the seventh form; the later family's looks); each row that meets fmt, with fmt's text TOLD by the authors' own Lean function (tested against real Go, not proved from fmt's source: count such statements apart). THE CARD IS WHAT COUNTS. Prove the row's statement (the work); the ties are given (YtadcpoglkmklhaaDoorTie.lean); close each card by the builder's one call (the guide's Derived/Test/ToyasCard.lean, 'card_holds'). Laid BY PROGRAM, IN A SANDBOX (cutbox-door.mjs). By AI agents, Wed Nov 11 2026. No macro, syntax, notation, axiom, sorry.
-/
import Derived.Test.YtadcpoglkmklhaaDoorRows
import GoSem.ClaimSeven
namespace Go.Proofs.YtadcpoglkmklhaaDoor
namespace Rows

/-- THE TIED CARD OF 'muezzinlaw4.CtlSays'. -/
def ctlSaysCard : Claim7 := { stood := { row := ctlSaysRow, standIns := [], harness := (true, "c58c9a91912db3e5c48b054591bee0f7998a52319f51b56e304b09f362e66e45"), looks := true }, kinds := [], alts := [], laidByText := true, laidKinds := [.sentinel, .sentinel, .sentinel, .sentinel, .sentinel, .sentinel, .sentinel, .sentinel, .sentinel, .sentinel, .sentinel, .sentinel, .sentinel, .sentinel], laidTests := true, laidLooks := .later }
def CtlSaysCardSaid : Prop := Claim7.holds Tryd.pinned (.plain (OpenSpec.ofChange ctlSaysSpec)) ctlSaysCard

/-- THE TIED CARD OF 'muezzinlaw4.CtlTurned'. -/
def ctlTurnedCard : Claim7 := { stood := { row := ctlTurnedRow, standIns := [], harness := (true, "c58c9a91912db3e5c48b054591bee0f7998a52319f51b56e304b09f362e66e45"), looks := true }, kinds := [], alts := [], laidByText := true, laidKinds := [.sentinel, .sentinel, .sentinel, .sentinel], laidTests := true, laidLooks := .later }
def CtlTurnedCardSaid : Prop := Claim7.holds Tryd.pinned (.plain (OpenSpec.ofChange ctlTurnedSpec)) ctlTurnedCard

/-- THE TIED CARD OF 'muezzinlaw4.CtlBounds'. -/
def ctlBoundsCard : Claim7 := { stood := { row := ctlBoundsRow, standIns := [], harness := (true, "c58c9a91912db3e5c48b054591bee0f7998a52319f51b56e304b09f362e66e45"), looks := true }, kinds := [], alts := [], laidByText := true, laidKinds := [.sentinel, .sentinel, .sentinel, .sentinel, .sentinel, .sentinel, .sentinel, .sentinel, .sentinel, .sentinel, .sentinel, .sentinel, .sentinel, .sentinel], laidTests := true, laidLooks := .later }
def CtlBoundsCardSaid : Prop := Claim7.holds Tryd.pinned (.plain (OpenSpec.ofChange ctlBoundsSpec)) ctlBoundsCard

/-- THE TIED CARD OF 'muezzinlaw4.CtlReads'. -/
def ctlReadsCard : Claim7 := { stood := { row := ctlReadsRow, standIns := [], harness := (true, "c58c9a91912db3e5c48b054591bee0f7998a52319f51b56e304b09f362e66e45"), looks := true }, kinds := [], alts := [], laidByText := true, laidKinds := [.sentinel, .sentinel, .sentinel, .sentinel, .sentinel, .sentinel, .sentinel, .sentinel, .sentinel, .sentinel, .sentinel, .sentinel, .sentinel, .sentinel], laidTests := true, laidLooks := .later }
def CtlReadsCardSaid : Prop := Claim7.holds Tryd.pinned (.plain (OpenSpec.ofChange ctlReadsSpec)) ctlReadsCard

/-- THE TIED CARD OF 'muezzinlaw4.CtlBack'. -/
def ctlBackCard : Claim7 := { stood := { row := ctlBackRow, standIns := [], harness := (true, "c58c9a91912db3e5c48b054591bee0f7998a52319f51b56e304b09f362e66e45"), looks := true }, kinds := [], alts := [], laidByText := true, laidKinds := [.sentinel, .sentinel, .sentinel, .sentinel, .sentinel, .sentinel, .sentinel, .sentinel, .sentinel, .sentinel, .sentinel, .sentinel, .sentinel, .sentinel], laidTests := true, laidLooks := .later }
def CtlBackCardSaid : Prop := Claim7.holds Tryd.pinned (.plain (OpenSpec.ofChange ctlBackSpec)) ctlBackCard

/-- THE SECOND FORM's CARD OF 'muezzinlaw4.CtlSays'. -/
def ctlSaysUptoCard : Claim7 := { stood := { row := ctlSaysUptoRow, standIns := [], harness := (true, "c58c9a91912db3e5c48b054591bee0f7998a52319f51b56e304b09f362e66e45"), looks := true }, kinds := [], alts := [], laidByText := true, laidKinds := [.sentinel, .sentinel, .sentinel, .sentinel, .sentinel, .sentinel, .sentinel, .sentinel, .sentinel, .sentinel, .sentinel, .sentinel, .sentinel, .sentinel], laidTests := true, laidLooks := .later }
def CtlSaysUptoCardSaid : Prop := Claim7.holds Tryd.pinned (.plain (OpenSpec.upto ctlSaysSpec)) ctlSaysUptoCard

/-- THE SECOND FORM's CARD OF 'muezzinlaw4.CtlTurned'. -/
def ctlTurnedUptoCard : Claim7 := { stood := { row := ctlTurnedUptoRow, standIns := [], harness := (true, "c58c9a91912db3e5c48b054591bee0f7998a52319f51b56e304b09f362e66e45"), looks := true }, kinds := [], alts := [], laidByText := true, laidKinds := [.sentinel, .sentinel, .sentinel, .sentinel], laidTests := true, laidLooks := .later }
def CtlTurnedUptoCardSaid : Prop := Claim7.holds Tryd.pinned (.plain (OpenSpec.upto ctlTurnedSpec)) ctlTurnedUptoCard

/-- THE SECOND FORM's CARD OF 'muezzinlaw4.CtlBounds'. -/
def ctlBoundsUptoCard : Claim7 := { stood := { row := ctlBoundsUptoRow, standIns := [], harness := (true, "c58c9a91912db3e5c48b054591bee0f7998a52319f51b56e304b09f362e66e45"), looks := true }, kinds := [], alts := [], laidByText := true, laidKinds := [.sentinel, .sentinel, .sentinel, .sentinel, .sentinel, .sentinel, .sentinel, .sentinel, .sentinel, .sentinel, .sentinel, .sentinel, .sentinel, .sentinel], laidTests := true, laidLooks := .later }
def CtlBoundsUptoCardSaid : Prop := Claim7.holds Tryd.pinned (.plain (OpenSpec.upto ctlBoundsSpec)) ctlBoundsUptoCard

/-- THE SECOND FORM's CARD OF 'muezzinlaw4.CtlReads'. -/
def ctlReadsUptoCard : Claim7 := { stood := { row := ctlReadsUptoRow, standIns := [], harness := (true, "c58c9a91912db3e5c48b054591bee0f7998a52319f51b56e304b09f362e66e45"), looks := true }, kinds := [], alts := [], laidByText := true, laidKinds := [.sentinel, .sentinel, .sentinel, .sentinel, .sentinel, .sentinel, .sentinel, .sentinel, .sentinel, .sentinel, .sentinel, .sentinel, .sentinel, .sentinel], laidTests := true, laidLooks := .later }
def CtlReadsUptoCardSaid : Prop := Claim7.holds Tryd.pinned (.plain (OpenSpec.upto ctlReadsSpec)) ctlReadsUptoCard

/-- THE SECOND FORM's CARD OF 'muezzinlaw4.CtlBack'. -/
def ctlBackUptoCard : Claim7 := { stood := { row := ctlBackUptoRow, standIns := [], harness := (true, "c58c9a91912db3e5c48b054591bee0f7998a52319f51b56e304b09f362e66e45"), looks := true }, kinds := [], alts := [], laidByText := true, laidKinds := [.sentinel, .sentinel, .sentinel, .sentinel, .sentinel, .sentinel, .sentinel, .sentinel, .sentinel, .sentinel, .sentinel, .sentinel, .sentinel, .sentinel], laidTests := true, laidLooks := .later }
def CtlBackUptoCardSaid : Prop := Claim7.holds Tryd.pinned (.plain (OpenSpec.upto ctlBackSpec)) ctlBackUptoCard
end Rows
end Go.Proofs.YtadcpoglkmklhaaDoor
