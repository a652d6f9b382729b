/-
  DERIVED. GIVEN WITH THE SEED: THE CARDS: each row of YtddlafcnfdohnaaDoorRows.lean that lists a variable, with what it lists TIED to the program's text (the seventh form; the later family's looks); each row that meets fmt, with fmt's text TOLD by the authors' own Lean function (tested against real Go, not proved from fmt's source: count such statements apart). THE CARD IS WHAT COUNTS. Prove the row's statement (the work); the ties are given (YtddlafcnfdohnaaDoorTie.lean); close each card by the builder's one call (the guide's Derived/Test/ToyasCard.lean, 'card_holds'). Laid BY PROGRAM, IN A SANDBOX (cutbox-door.mjs). By AI agents, Wed Nov 11 2026. No macro, syntax, notation, axiom, sorry.
-/
import Derived.Test.YtddlafcnfdohnaaDoorRows
import GoSem.ClaimSeven
namespace Go.Proofs.YtddlafcnfdohnaaDoor
namespace Rows

/-- THE TIED CARD OF 'namedesklaw12.SplitLabels'. -/
def splitLabelsCard : Claim7 := { stood := { row := splitLabelsRow, standIns := [], harness := (true, "501a13d86ac6200a616ef32531417a36e9ab48aefd75c96f376bee702e4874f9"), looks := false }, kinds := [], alts := [], laidByText := true, laidKinds := [.data, .pinned], laidTests := true, laidLooks := .later }
def SplitLabelsCardSaid : Prop := Claim7.holds Tryd.pinned (.plain (OpenSpec.ofChange splitLabelsSpec)) splitLabelsCard

/-- THE TIED CARD OF 'namedesklaw12.SplitName'. -/
def splitNameCard : Claim7 := { stood := { row := splitNameRow, standIns := [], harness := (true, "501a13d86ac6200a616ef32531417a36e9ab48aefd75c96f376bee702e4874f9"), looks := false }, kinds := [], alts := [], laidByText := true, laidKinds := [.data, .pinned], laidTests := true, laidLooks := .later }
def SplitNameCardSaid : Prop := Claim7.holds Tryd.pinned (.plain (OpenSpec.ofChange splitNameSpec)) splitNameCard

/-- THE SECOND FORM's CARD OF 'namedesklaw12.SplitLabels'. -/
def splitLabelsUptoCard : Claim7 := { stood := { row := splitLabelsUptoRow, standIns := [], harness := (true, "501a13d86ac6200a616ef32531417a36e9ab48aefd75c96f376bee702e4874f9"), looks := false }, kinds := [], alts := [], laidByText := true, laidKinds := [.data, .pinned], laidTests := true, laidLooks := .later }
def SplitLabelsUptoCardSaid : Prop := Claim7.holds Tryd.pinned (.plain (OpenSpec.upto splitLabelsSpec)) splitLabelsUptoCard

/-- THE SECOND FORM's CARD OF 'namedesklaw12.SplitName'. -/
def splitNameUptoCard : Claim7 := { stood := { row := splitNameUptoRow, standIns := [], harness := (true, "501a13d86ac6200a616ef32531417a36e9ab48aefd75c96f376bee702e4874f9"), looks := false }, kinds := [], alts := [], laidByText := true, laidKinds := [.data, .pinned], laidTests := true, laidLooks := .later }
def SplitNameUptoCardSaid : Prop := Claim7.holds Tryd.pinned (.plain (OpenSpec.upto splitNameSpec)) splitNameUptoCard
end Rows
end Go.Proofs.YtddlafcnfdohnaaDoor
