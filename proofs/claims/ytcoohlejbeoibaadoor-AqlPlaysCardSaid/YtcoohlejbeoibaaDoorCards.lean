/-
  DERIVED. GIVEN WITH THE SEED: THE CARDS: each row of YtcoohlejbeoibaaDoorRows.lean that lists a variable, with what it lists TIED to the program's text (the seventh form; the later family's looks); each row that meets fmt, with fmt's text TOLD by the authors' own Lean function (tested against real Go, not proved from fmt's source: count such statements apart). THE CARD IS WHAT COUNTS. Prove the row's statement (the work); the ties are given (YtcoohlejbeoibaaDoorTie.lean); close each card by the builder's one call (the guide's Derived/Test/ToyasCard.lean, 'card_holds'). Laid BY PROGRAM, IN A SANDBOX (cutbox-door.mjs). By AI agents, Wed Nov 11 2026. No macro, syntax, notation, axiom, sorry.
-/
import Derived.Test.YtcoohlejbeoibaaDoorRows
import GoSem.ClaimSeven
namespace Go.Proofs.YtcoohlejbeoibaaDoor
namespace Rows

/-- THE TIED CARD OF 'muezzinlaw19.AqlBounds'. -/
def aqlBoundsCard : Claim7 := { stood := { row := aqlBoundsRow, standIns := [], harness := (true, "8f7dd4147806ccbdee2a45212c7ef78c3c591f7411a9fb8bab34c19cc87e7c74"), looks := true }, kinds := [], alts := [], laidByText := true, laidKinds := [.sentinel], laidTests := true, laidLooks := .later }
def AqlBoundsCardSaid : Prop := Claim7.holds Tryd.pinned (.plain (OpenSpec.ofChange aqlBoundsSpec)) aqlBoundsCard

/-- THE TIED CARD OF 'muezzinlaw19.AqlBack'. -/
def aqlBackCard : Claim7 := { stood := { row := aqlBackRow, standIns := [], harness := (true, "8f7dd4147806ccbdee2a45212c7ef78c3c591f7411a9fb8bab34c19cc87e7c74"), looks := true }, kinds := [], alts := [], laidByText := true, laidKinds := [.sentinel, .sentinel, .sentinel, .sentinel, .sentinel, .sentinel, .sentinel, .sentinel, .sentinel, .sentinel, .sentinel, .sentinel, .sentinel, .sentinel], laidTests := true, laidLooks := .later }
def AqlBackCardSaid : Prop := Claim7.holds Tryd.pinned (.plain (OpenSpec.ofChange aqlBackSpec)) aqlBackCard

/-- THE TIED CARD OF 'muezzinlaw19.AqlPlays'. -/
def aqlPlaysCard : Claim7 := { stood := { row := aqlPlaysRow, standIns := [], harness := (true, "8f7dd4147806ccbdee2a45212c7ef78c3c591f7411a9fb8bab34c19cc87e7c74"), looks := true }, kinds := [], alts := [], laidByText := true, laidKinds := [.sentinel, .sentinel, .sentinel, .sentinel, .sentinel, .sentinel, .sentinel, .sentinel, .sentinel, .sentinel, .sentinel, .sentinel, .sentinel, .sentinel], laidTests := true, laidLooks := .later }
def AqlPlaysCardSaid : Prop := Claim7.holds Tryd.pinned (.plain (OpenSpec.ofChange aqlPlaysSpec)) aqlPlaysCard

/-- THE SECOND FORM's CARD OF 'muezzinlaw19.AqlBounds'. -/
def aqlBoundsUptoCard : Claim7 := { stood := { row := aqlBoundsUptoRow, standIns := [], harness := (true, "8f7dd4147806ccbdee2a45212c7ef78c3c591f7411a9fb8bab34c19cc87e7c74"), looks := true }, kinds := [], alts := [], laidByText := true, laidKinds := [.sentinel], laidTests := true, laidLooks := .later }
def AqlBoundsUptoCardSaid : Prop := Claim7.holds Tryd.pinned (.plain (OpenSpec.upto aqlBoundsSpec)) aqlBoundsUptoCard

/-- THE SECOND FORM's CARD OF 'muezzinlaw19.AqlBack'. -/
def aqlBackUptoCard : Claim7 := { stood := { row := aqlBackUptoRow, standIns := [], harness := (true, "8f7dd4147806ccbdee2a45212c7ef78c3c591f7411a9fb8bab34c19cc87e7c74"), looks := true }, kinds := [], alts := [], laidByText := true, laidKinds := [.sentinel, .sentinel, .sentinel, .sentinel, .sentinel, .sentinel, .sentinel, .sentinel, .sentinel, .sentinel, .sentinel, .sentinel, .sentinel, .sentinel], laidTests := true, laidLooks := .later }
def AqlBackUptoCardSaid : Prop := Claim7.holds Tryd.pinned (.plain (OpenSpec.upto aqlBackSpec)) aqlBackUptoCard

/-- THE SECOND FORM's CARD OF 'muezzinlaw19.AqlPlays'. -/
def aqlPlaysUptoCard : Claim7 := { stood := { row := aqlPlaysUptoRow, standIns := [], harness := (true, "8f7dd4147806ccbdee2a45212c7ef78c3c591f7411a9fb8bab34c19cc87e7c74"), looks := true }, kinds := [], alts := [], laidByText := true, laidKinds := [.sentinel, .sentinel, .sentinel, .sentinel, .sentinel, .sentinel, .sentinel, .sentinel, .sentinel, .sentinel, .sentinel, .sentinel, .sentinel, .sentinel], laidTests := true, laidLooks := .later }
def AqlPlaysUptoCardSaid : Prop := Claim7.holds Tryd.pinned (.plain (OpenSpec.upto aqlPlaysSpec)) aqlPlaysUptoCard
end Rows
end Go.Proofs.YtcoohlejbeoibaaDoor
