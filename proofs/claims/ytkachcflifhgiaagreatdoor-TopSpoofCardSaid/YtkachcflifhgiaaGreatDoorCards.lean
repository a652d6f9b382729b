/-
  DERIVED. GIVEN WITH THE SEED: THE CARDS: each row of YtkachcflifhgiaaGreatDoorRows.lean that lists a variable, with what it lists TIED to the program's text (the seventh form; the later family's looks); each row that meets fmt, with fmt's text TOLD by the authors' own Lean function (tested against real Go, not proved from fmt's source: count such statements apart). THE CARD IS WHAT COUNTS. Prove the row's statement (the work); the ties are given (YtkachcflifhgiaaGreatDoorTie.lean); close each card by the builder's one call (the guide's Derived/Test/ToyasCard.lean, 'card_holds'). Laid BY PROGRAM, IN A SANDBOX (cutbox-door.mjs). By AI agents, Wed Nov 11 2026. No macro, syntax, notation, axiom, sorry.
-/
import Derived.Test.YtkachcflifhgiaaGreatDoorRows
import GoSem.ClaimSeven
namespace Go.Proofs.YtkachcflifhgiaaGreatDoor
namespace Rows

/-- THE TIED CARD OF 'namedesktop.TopSpoof'. -/
def topSpoofCard : Claim7 := { stood := { row := topSpoofRow, standIns := [], harness := (true, "cfb7ef82ef910f5124ed6c39ff025fb514a8ccedb8112b24f002b058e01ea4de"), looks := false }, kinds := [], alts := [], laidByText := true, laidKinds := [.data, .data, .data, .data], laidTests := true, laidLooks := .later }
def TopSpoofCardSaid : Prop := Claim7.holds Tryz.pinned (.plain (OpenSpec.ofChange topSpoofSpec)) topSpoofCard

/-- THE TIED CARD OF 'namedesktop.TopFinish'. -/
def topFinishCard : Claim7 := { stood := { row := topFinishRow, standIns := [], harness := (true, "cfb7ef82ef910f5124ed6c39ff025fb514a8ccedb8112b24f002b058e01ea4de"), looks := false }, kinds := [], alts := [], laidByText := true, laidKinds := [.data], laidTests := true, laidLooks := .later }
def TopFinishCardSaid : Prop := Claim7.holds Tryz.pinned (.plain (OpenSpec.ofChange topFinishSpec)) topFinishCard

/-- THE TIED CARD OF 'namedesktop.TopRefused'. -/
def topRefusedCard : Claim7 := { stood := { row := topRefusedRow, standIns := [], harness := (true, "cfb7ef82ef910f5124ed6c39ff025fb514a8ccedb8112b24f002b058e01ea4de"), looks := false }, kinds := [], alts := [], laidByText := true, laidKinds := [.data], laidTests := true, laidLooks := .later }
def TopRefusedCardSaid : Prop := Claim7.holds Tryz.pinned (.plain (OpenSpec.ofChange topRefusedSpec)) topRefusedCard

/-- THE SECOND FORM's CARD OF 'namedesktop.TopSpoof'. -/
def topSpoofUptoCard : Claim7 := { stood := { row := topSpoofUptoRow, standIns := [], harness := (true, "cfb7ef82ef910f5124ed6c39ff025fb514a8ccedb8112b24f002b058e01ea4de"), looks := false }, kinds := [], alts := [], laidByText := true, laidKinds := [.data, .data, .data, .data], laidTests := true, laidLooks := .later }
def TopSpoofUptoCardSaid : Prop := Claim7.holds Tryz.pinned (.plain (OpenSpec.upto topSpoofSpec)) topSpoofUptoCard

/-- THE SECOND FORM's CARD OF 'namedesktop.TopFinish'. -/
def topFinishUptoCard : Claim7 := { stood := { row := topFinishUptoRow, standIns := [], harness := (true, "cfb7ef82ef910f5124ed6c39ff025fb514a8ccedb8112b24f002b058e01ea4de"), looks := false }, kinds := [], alts := [], laidByText := true, laidKinds := [.data], laidTests := true, laidLooks := .later }
def TopFinishUptoCardSaid : Prop := Claim7.holds Tryz.pinned (.plain (OpenSpec.upto topFinishSpec)) topFinishUptoCard

/-- THE SECOND FORM's CARD OF 'namedesktop.TopRefused'. -/
def topRefusedUptoCard : Claim7 := { stood := { row := topRefusedUptoRow, standIns := [], harness := (true, "cfb7ef82ef910f5124ed6c39ff025fb514a8ccedb8112b24f002b058e01ea4de"), looks := false }, kinds := [], alts := [], laidByText := true, laidKinds := [.data], laidTests := true, laidLooks := .later }
def TopRefusedUptoCardSaid : Prop := Claim7.holds Tryz.pinned (.plain (OpenSpec.upto topRefusedSpec)) topRefusedUptoCard
end Rows
end Go.Proofs.YtkachcflifhgiaaGreatDoor
