/-
  DERIVED. GIVEN WITH THE SEED: THE CARDS: each row of YtddieenjdaociaaGreatDoorRows.lean that lists a variable, with what it lists TIED to the program's text (the seventh form; the later family's looks); each row that meets fmt, with fmt's text TOLD by the authors' own Lean function (tested against real Go, not proved from fmt's source: count such statements apart). THE CARD IS WHAT COUNTS. Prove the row's statement (the work); the ties are given (YtddieenjdaociaaGreatDoorTie.lean); close each card by the builder's one call (the guide's Derived/Test/ToyasCard.lean, 'card_holds'). Laid BY PROGRAM, IN A SANDBOX (cutbox-door.mjs). By AI agents, Wed Nov 11 2026. No macro, syntax, notation, axiom, sorry.
-/
import Derived.Test.YtddieenjdaociaaGreatDoorRows
import GoSem.ClaimSeven
namespace Go.Proofs.YtddieenjdaociaaGreatDoor
namespace Rows

/-- THE TIED CARD OF 'namedesktop.TopExpiry'. -/
def topExpiryCard : Claim7 := { stood := { row := topExpiryRow, standIns := [], harness := (true, "c019f4e1fe9147d670b9effc1901a960e5a043f6f8346e268d1bb176e963df4b"), looks := false }, kinds := [], alts := [], laidByText := true, laidKinds := [.data, .data, .data, .data], laidTests := true, laidLooks := .later }
def TopExpiryCardSaid : Prop := Claim7.holds Tryz.pinned (.plain (OpenSpec.ofChange topExpirySpec)) topExpiryCard

/-- THE SECOND FORM's CARD OF 'namedesktop.TopExpiry'. -/
def topExpiryUptoCard : Claim7 := { stood := { row := topExpiryUptoRow, standIns := [], harness := (true, "c019f4e1fe9147d670b9effc1901a960e5a043f6f8346e268d1bb176e963df4b"), looks := false }, kinds := [], alts := [], laidByText := true, laidKinds := [.data, .data, .data, .data], laidTests := true, laidLooks := .later }
def TopExpiryUptoCardSaid : Prop := Claim7.holds Tryz.pinned (.plain (OpenSpec.upto topExpirySpec)) topExpiryUptoCard
end Rows
end Go.Proofs.YtddieenjdaociaaGreatDoor
