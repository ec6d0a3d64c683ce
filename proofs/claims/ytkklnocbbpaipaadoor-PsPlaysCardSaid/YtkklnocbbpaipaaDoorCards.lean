/-
  DERIVED. GIVEN WITH THE SEED: THE CARDS: each row of YtkklnocbbpaipaaDoorRows.lean that lists a variable, with what it lists TIED to the program's text (the seventh form; the later family's looks); each row that meets fmt, with fmt's text TOLD by the authors' own Lean function (tested against real Go, not proved from fmt's source: count such statements apart). THE CARD IS WHAT COUNTS. Prove the row's statement (the work); the ties are given (YtkklnocbbpaipaaDoorTie.lean); close each card by the builder's one call (the guide's Derived/Test/ToyasCard.lean, 'card_holds'). Laid BY PROGRAM, IN A SANDBOX (cutbox-door.mjs). By AI agents, Wed Nov 11 2026. No macro, syntax, notation, axiom, sorry.
-/
import Derived.Test.YtkklnocbbpaipaaDoorRows
import GoSem.ClaimSeven
namespace Go.Proofs.YtkklnocbbpaipaaDoor
namespace Rows

/-- THE TIED CARD OF 'muezzinlaw21.PsApart'. -/
def psApartCard : Claim7 := { stood := { row := psApartRow, standIns := [], harness := (true, "81866944c80b8c6a487343b5581dd0f7408983a7175d599744ddedbe94869ba5"), looks := true }, kinds := [], alts := [], laidByText := true, laidKinds := [.sentinel, .sentinel, .sentinel, .sentinel], laidTests := true, laidLooks := .later }
def PsApartCardSaid : Prop := Claim7.holds Tryd.pinned (.plain (OpenSpec.ofChange psApartSpec)) psApartCard

/-- THE TIED CARD OF 'muezzinlaw21.PsOne'. -/
def psOneCard : Claim7 := { stood := { row := psOneRow, standIns := [], harness := (true, "81866944c80b8c6a487343b5581dd0f7408983a7175d599744ddedbe94869ba5"), looks := true }, kinds := [], alts := [], laidByText := true, laidKinds := [.sentinel, .sentinel, .sentinel, .sentinel, .sentinel, .sentinel, .sentinel, .sentinel, .sentinel, .sentinel, .sentinel, .sentinel, .sentinel, .sentinel], laidTests := true, laidLooks := .later }
def PsOneCardSaid : Prop := Claim7.holds Tryd.pinned (.plain (OpenSpec.ofChange psOneSpec)) psOneCard

/-- THE TIED CARD OF 'muezzinlaw21.PsPeriods'. -/
def psPeriodsCard : Claim7 := { stood := { row := psPeriodsRow, standIns := [], harness := (true, "81866944c80b8c6a487343b5581dd0f7408983a7175d599744ddedbe94869ba5"), looks := true }, kinds := [], alts := [], laidByText := true, laidKinds := [.sentinel, .sentinel, .sentinel, .sentinel, .sentinel, .sentinel, .sentinel, .sentinel, .sentinel, .sentinel, .sentinel, .sentinel, .sentinel, .sentinel], laidTests := true, laidLooks := .later }
def PsPeriodsCardSaid : Prop := Claim7.holds Tryd.pinned (.plain (OpenSpec.ofChange psPeriodsSpec)) psPeriodsCard

/-- THE TIED CARD OF 'muezzinlaw21.PsPlays'. -/
def psPlaysCard : Claim7 := { stood := { row := psPlaysRow, standIns := [], harness := (true, "81866944c80b8c6a487343b5581dd0f7408983a7175d599744ddedbe94869ba5"), looks := true }, kinds := [], alts := [], laidByText := true, laidKinds := [.sentinel, .sentinel, .sentinel, .sentinel, .sentinel, .sentinel, .sentinel, .sentinel, .sentinel, .sentinel, .sentinel, .sentinel, .sentinel, .sentinel], laidTests := true, laidLooks := .later }
def PsPlaysCardSaid : Prop := Claim7.holds Tryd.pinned (.plain (OpenSpec.ofChange psPlaysSpec)) psPlaysCard

/-- THE SECOND FORM's CARD OF 'muezzinlaw21.PsApart'. -/
def psApartUptoCard : Claim7 := { stood := { row := psApartUptoRow, standIns := [], harness := (true, "81866944c80b8c6a487343b5581dd0f7408983a7175d599744ddedbe94869ba5"), looks := true }, kinds := [], alts := [], laidByText := true, laidKinds := [.sentinel, .sentinel, .sentinel, .sentinel], laidTests := true, laidLooks := .later }
def PsApartUptoCardSaid : Prop := Claim7.holds Tryd.pinned (.plain (OpenSpec.upto psApartSpec)) psApartUptoCard

/-- THE SECOND FORM's CARD OF 'muezzinlaw21.PsOne'. -/
def psOneUptoCard : Claim7 := { stood := { row := psOneUptoRow, standIns := [], harness := (true, "81866944c80b8c6a487343b5581dd0f7408983a7175d599744ddedbe94869ba5"), looks := true }, kinds := [], alts := [], laidByText := true, laidKinds := [.sentinel, .sentinel, .sentinel, .sentinel, .sentinel, .sentinel, .sentinel, .sentinel, .sentinel, .sentinel, .sentinel, .sentinel, .sentinel, .sentinel], laidTests := true, laidLooks := .later }
def PsOneUptoCardSaid : Prop := Claim7.holds Tryd.pinned (.plain (OpenSpec.upto psOneSpec)) psOneUptoCard

/-- THE SECOND FORM's CARD OF 'muezzinlaw21.PsPeriods'. -/
def psPeriodsUptoCard : Claim7 := { stood := { row := psPeriodsUptoRow, standIns := [], harness := (true, "81866944c80b8c6a487343b5581dd0f7408983a7175d599744ddedbe94869ba5"), looks := true }, kinds := [], alts := [], laidByText := true, laidKinds := [.sentinel, .sentinel, .sentinel, .sentinel, .sentinel, .sentinel, .sentinel, .sentinel, .sentinel, .sentinel, .sentinel, .sentinel, .sentinel, .sentinel], laidTests := true, laidLooks := .later }
def PsPeriodsUptoCardSaid : Prop := Claim7.holds Tryd.pinned (.plain (OpenSpec.upto psPeriodsSpec)) psPeriodsUptoCard

/-- THE SECOND FORM's CARD OF 'muezzinlaw21.PsPlays'. -/
def psPlaysUptoCard : Claim7 := { stood := { row := psPlaysUptoRow, standIns := [], harness := (true, "81866944c80b8c6a487343b5581dd0f7408983a7175d599744ddedbe94869ba5"), looks := true }, kinds := [], alts := [], laidByText := true, laidKinds := [.sentinel, .sentinel, .sentinel, .sentinel, .sentinel, .sentinel, .sentinel, .sentinel, .sentinel, .sentinel, .sentinel, .sentinel, .sentinel, .sentinel], laidTests := true, laidLooks := .later }
def PsPlaysUptoCardSaid : Prop := Claim7.holds Tryd.pinned (.plain (OpenSpec.upto psPlaysSpec)) psPlaysUptoCard
end Rows
end Go.Proofs.YtkklnocbbpaipaaDoor
