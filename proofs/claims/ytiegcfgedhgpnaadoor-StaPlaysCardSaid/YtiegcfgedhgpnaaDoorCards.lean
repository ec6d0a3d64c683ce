/-
  DERIVED. GIVEN WITH THE SEED: THE CARDS: each row of YtiegcfgedhgpnaaDoorRows.lean that lists a variable, with what it lists TIED to the program's text (the seventh form; the later family's looks); each row that meets fmt, with fmt's text TOLD by the authors' own Lean function (tested against real Go, not proved from fmt's source: count such statements apart). THE CARD IS WHAT COUNTS. Prove the row's statement (the work); the ties are given (YtiegcfgedhgpnaaDoorTie.lean); close each card by the builder's one call (the guide's Derived/Test/ToyasCard.lean, 'card_holds'). Laid BY PROGRAM, IN A SANDBOX (cutbox-door.mjs). By AI agents, Wed Nov 11 2026. No macro, syntax, notation, axiom, sorry.
-/
import Derived.Test.YtiegcfgedhgpnaaDoorRows
import GoSem.ClaimSeven
namespace Go.Proofs.YtiegcfgedhgpnaaDoor
namespace Rows

/-- THE TIED CARD OF 'muezzinlaw22.StaEpochs'. -/
def staEpochsCard : Claim7 := { stood := { row := staEpochsRow, standIns := [], harness := (true, "e1e01123a902f25bf3ca43b2ac2bade55b96a99e4b9c11dcb55e866ced8633a7"), looks := true }, kinds := [], alts := [], laidByText := true, laidKinds := [.sentinel, .sentinel, .sentinel, .sentinel], laidTests := true, laidLooks := .later }
def StaEpochsCardSaid : Prop := Claim7.holds Tryd.pinned (.plain (OpenSpec.ofChange staEpochsSpec)) staEpochsCard

/-- THE TIED CARD OF 'muezzinlaw22.StaFull'. -/
def staFullCard : Claim7 := { stood := { row := staFullRow, standIns := [], harness := (true, "e1e01123a902f25bf3ca43b2ac2bade55b96a99e4b9c11dcb55e866ced8633a7"), looks := true }, kinds := [], alts := [], laidByText := true, laidKinds := [.sentinel, .sentinel, .sentinel, .sentinel, .sentinel, .sentinel, .sentinel, .sentinel, .sentinel, .sentinel, .sentinel, .sentinel, .sentinel, .sentinel], laidTests := true, laidLooks := .later }
def StaFullCardSaid : Prop := Claim7.holds Tryd.pinned (.plain (OpenSpec.ofChange staFullSpec)) staFullCard

/-- THE TIED CARD OF 'muezzinlaw22.StaPlays'. -/
def staPlaysCard : Claim7 := { stood := { row := staPlaysRow, standIns := [], harness := (true, "e1e01123a902f25bf3ca43b2ac2bade55b96a99e4b9c11dcb55e866ced8633a7"), looks := true }, kinds := [], alts := [], laidByText := true, laidKinds := [.sentinel, .sentinel, .sentinel, .sentinel, .sentinel, .sentinel, .sentinel, .sentinel, .sentinel, .sentinel, .sentinel, .sentinel, .sentinel, .sentinel], laidTests := true, laidLooks := .later }
def StaPlaysCardSaid : Prop := Claim7.holds Tryd.pinned (.plain (OpenSpec.ofChange staPlaysSpec)) staPlaysCard

/-- THE SECOND FORM's CARD OF 'muezzinlaw22.StaEpochs'. -/
def staEpochsUptoCard : Claim7 := { stood := { row := staEpochsUptoRow, standIns := [], harness := (true, "e1e01123a902f25bf3ca43b2ac2bade55b96a99e4b9c11dcb55e866ced8633a7"), looks := true }, kinds := [], alts := [], laidByText := true, laidKinds := [.sentinel, .sentinel, .sentinel, .sentinel], laidTests := true, laidLooks := .later }
def StaEpochsUptoCardSaid : Prop := Claim7.holds Tryd.pinned (.plain (OpenSpec.upto staEpochsSpec)) staEpochsUptoCard

/-- THE SECOND FORM's CARD OF 'muezzinlaw22.StaFull'. -/
def staFullUptoCard : Claim7 := { stood := { row := staFullUptoRow, standIns := [], harness := (true, "e1e01123a902f25bf3ca43b2ac2bade55b96a99e4b9c11dcb55e866ced8633a7"), looks := true }, kinds := [], alts := [], laidByText := true, laidKinds := [.sentinel, .sentinel, .sentinel, .sentinel, .sentinel, .sentinel, .sentinel, .sentinel, .sentinel, .sentinel, .sentinel, .sentinel, .sentinel, .sentinel], laidTests := true, laidLooks := .later }
def StaFullUptoCardSaid : Prop := Claim7.holds Tryd.pinned (.plain (OpenSpec.upto staFullSpec)) staFullUptoCard

/-- THE SECOND FORM's CARD OF 'muezzinlaw22.StaPlays'. -/
def staPlaysUptoCard : Claim7 := { stood := { row := staPlaysUptoRow, standIns := [], harness := (true, "e1e01123a902f25bf3ca43b2ac2bade55b96a99e4b9c11dcb55e866ced8633a7"), looks := true }, kinds := [], alts := [], laidByText := true, laidKinds := [.sentinel, .sentinel, .sentinel, .sentinel, .sentinel, .sentinel, .sentinel, .sentinel, .sentinel, .sentinel, .sentinel, .sentinel, .sentinel, .sentinel], laidTests := true, laidLooks := .later }
def StaPlaysUptoCardSaid : Prop := Claim7.holds Tryd.pinned (.plain (OpenSpec.upto staPlaysSpec)) staPlaysUptoCard
end Rows
end Go.Proofs.YtiegcfgedhgpnaaDoor
