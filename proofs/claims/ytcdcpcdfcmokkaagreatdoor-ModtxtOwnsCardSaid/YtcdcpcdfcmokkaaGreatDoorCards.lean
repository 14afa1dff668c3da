/-
  DERIVED. GIVEN WITH THE SEED: THE CARDS: each row of YtcdcpcdfcmokkaaGreatDoorRows.lean that lists a variable, with what it lists TIED to the program's text (the seventh form; the later family's looks); each row that meets fmt, with fmt's text TOLD by the authors' own Lean function (tested against real Go, not proved from fmt's source: count such statements apart). THE CARD IS WHAT COUNTS. Prove the row's statement (the work); the ties are given (YtcdcpcdfcmokkaaGreatDoorTie.lean); close each card by the builder's one call (the guide's Derived/Test/ToyasCard.lean, 'card_holds'). Laid BY PROGRAM, IN A SANDBOX (cutbox-door.mjs). By AI agents, Wed Nov 11 2026. No macro, syntax, notation, axiom, sorry.
-/
import Derived.Test.YtcdcpcdfcmokkaaGreatDoorRows
import GoSem.ClaimSeven
namespace Go.Proofs.YtcdcpcdfcmokkaaGreatDoor
namespace Rows

/-- THE TIED CARD OF 'graftbedlaw19.ModtxtRest'. -/
def modtxtRestCard : Claim7 := { stood := { row := modtxtRestRow, standIns := [], harness := (true, "57f5c84f39fe2e3e35d85d564082cfb85cefb55d14f676cf1b3419b7f8659f9b"), looks := true }, kinds := [], alts := [], laidByText := true, laidKinds := [.data, .data, .data, .sentinel, .sentinel], laidTests := true, laidLooks := .later }
def ModtxtRestCardSaid : Prop := Claim7.holds Tryz.pinned (.plain (OpenSpec.ofChange modtxtRestSpec)) modtxtRestCard

/-- THE TIED CARD OF 'graftbedlaw19.ModtxtJoins'. -/
def modtxtJoinsCard : Claim7 := { stood := { row := modtxtJoinsRow, standIns := [], harness := (true, "57f5c84f39fe2e3e35d85d564082cfb85cefb55d14f676cf1b3419b7f8659f9b"), looks := true }, kinds := [], alts := [], laidByText := true, laidKinds := [.data, .data, .data, .sentinel, .sentinel], laidTests := true, laidLooks := .later }
def ModtxtJoinsCardSaid : Prop := Claim7.holds Tryz.pinned (.plain (OpenSpec.ofChange modtxtJoinsSpec)) modtxtJoinsCard

/-- THE TIED CARD OF 'graftbedlaw19.ModtxtOwns'. -/
def modtxtOwnsCard : Claim7 := { stood := { row := modtxtOwnsRow, standIns := [], harness := (true, "57f5c84f39fe2e3e35d85d564082cfb85cefb55d14f676cf1b3419b7f8659f9b"), looks := true }, kinds := [], alts := [], laidByText := true, laidKinds := [.data, .data, .data, .sentinel, .sentinel], laidTests := true, laidLooks := .later }
def ModtxtOwnsCardSaid : Prop := Claim7.holds Tryz.pinned (.plain (OpenSpec.ofChange modtxtOwnsSpec)) modtxtOwnsCard

/-- THE TIED CARD OF 'graftbedlaw19.ModtxtPrints'. -/
def modtxtPrintsCard : Claim7 := { stood := { row := modtxtPrintsRow, standIns := [], harness := (true, "57f5c84f39fe2e3e35d85d564082cfb85cefb55d14f676cf1b3419b7f8659f9b"), looks := true }, kinds := [], alts := [], laidByText := true, laidKinds := [.data, .data, .data, .data, .sentinel, .sentinel, .pinned], laidTests := true, laidLooks := .later }
def ModtxtPrintsCardSaid : Prop := Claim7.holds Tryz.pinned (.plain (OpenSpec.ofChange modtxtPrintsSpec)) modtxtPrintsCard

/-- THE TIED CARD OF 'graftbedlaw19.ModtxtParses'. -/
def modtxtParsesCard : Claim7 := { stood := { row := modtxtParsesRow, standIns := [], harness := (true, "57f5c84f39fe2e3e35d85d564082cfb85cefb55d14f676cf1b3419b7f8659f9b"), looks := true }, kinds := [], alts := [], laidByText := true, laidKinds := [.data, .data, .data, .data, .sentinel, .sentinel, .pinned], laidTests := true, laidLooks := .later }
def ModtxtParsesCardSaid : Prop := Claim7.holds Tryz.pinned (.plain (OpenSpec.ofChange modtxtParsesSpec)) modtxtParsesCard

/-- THE SECOND FORM's CARD OF 'graftbedlaw19.ModtxtRest'. -/
def modtxtRestUptoCard : Claim7 := { stood := { row := modtxtRestUptoRow, standIns := [], harness := (true, "57f5c84f39fe2e3e35d85d564082cfb85cefb55d14f676cf1b3419b7f8659f9b"), looks := true }, kinds := [], alts := [], laidByText := true, laidKinds := [.data, .data, .data, .sentinel, .sentinel], laidTests := true, laidLooks := .later }
def ModtxtRestUptoCardSaid : Prop := Claim7.holds Tryz.pinned (.plain (OpenSpec.upto modtxtRestSpec)) modtxtRestUptoCard

/-- THE SECOND FORM's CARD OF 'graftbedlaw19.ModtxtJoins'. -/
def modtxtJoinsUptoCard : Claim7 := { stood := { row := modtxtJoinsUptoRow, standIns := [], harness := (true, "57f5c84f39fe2e3e35d85d564082cfb85cefb55d14f676cf1b3419b7f8659f9b"), looks := true }, kinds := [], alts := [], laidByText := true, laidKinds := [.data, .data, .data, .sentinel, .sentinel], laidTests := true, laidLooks := .later }
def ModtxtJoinsUptoCardSaid : Prop := Claim7.holds Tryz.pinned (.plain (OpenSpec.upto modtxtJoinsSpec)) modtxtJoinsUptoCard

/-- THE SECOND FORM's CARD OF 'graftbedlaw19.ModtxtOwns'. -/
def modtxtOwnsUptoCard : Claim7 := { stood := { row := modtxtOwnsUptoRow, standIns := [], harness := (true, "57f5c84f39fe2e3e35d85d564082cfb85cefb55d14f676cf1b3419b7f8659f9b"), looks := true }, kinds := [], alts := [], laidByText := true, laidKinds := [.data, .data, .data, .sentinel, .sentinel], laidTests := true, laidLooks := .later }
def ModtxtOwnsUptoCardSaid : Prop := Claim7.holds Tryz.pinned (.plain (OpenSpec.upto modtxtOwnsSpec)) modtxtOwnsUptoCard

/-- THE SECOND FORM's CARD OF 'graftbedlaw19.ModtxtPrints'. -/
def modtxtPrintsUptoCard : Claim7 := { stood := { row := modtxtPrintsUptoRow, standIns := [], harness := (true, "57f5c84f39fe2e3e35d85d564082cfb85cefb55d14f676cf1b3419b7f8659f9b"), looks := true }, kinds := [], alts := [], laidByText := true, laidKinds := [.data, .data, .data, .data, .sentinel, .sentinel, .pinned], laidTests := true, laidLooks := .later }
def ModtxtPrintsUptoCardSaid : Prop := Claim7.holds Tryz.pinned (.plain (OpenSpec.upto modtxtPrintsSpec)) modtxtPrintsUptoCard

/-- THE SECOND FORM's CARD OF 'graftbedlaw19.ModtxtParses'. -/
def modtxtParsesUptoCard : Claim7 := { stood := { row := modtxtParsesUptoRow, standIns := [], harness := (true, "57f5c84f39fe2e3e35d85d564082cfb85cefb55d14f676cf1b3419b7f8659f9b"), looks := true }, kinds := [], alts := [], laidByText := true, laidKinds := [.data, .data, .data, .data, .sentinel, .sentinel, .pinned], laidTests := true, laidLooks := .later }
def ModtxtParsesUptoCardSaid : Prop := Claim7.holds Tryz.pinned (.plain (OpenSpec.upto modtxtParsesSpec)) modtxtParsesUptoCard
end Rows
end Go.Proofs.YtcdcpcdfcmokkaaGreatDoor
