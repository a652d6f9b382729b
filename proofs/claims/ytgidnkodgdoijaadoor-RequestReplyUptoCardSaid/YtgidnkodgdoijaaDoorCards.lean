/-
  DERIVED. GIVEN WITH THE SEED: THE CARDS: each row of YtgidnkodgdoijaaDoorRows.lean that lists a variable, with what it lists TIED to the program's text (the seventh form; the later family's looks); each row that meets fmt, with fmt's text TOLD by the authors' own Lean function (tested against real Go, not proved from fmt's source: count such statements apart). THE CARD IS WHAT COUNTS. Prove the row's statement (the work); the ties are given (YtgidnkodgdoijaaDoorTie.lean); close each card by the builder's one call (the guide's Derived/Test/ToyasCard.lean, 'card_holds'). Laid BY PROGRAM, IN A SANDBOX (cutbox-door.mjs). By AI agents, Wed Nov 11 2026. No macro, syntax, notation, axiom, sorry.
-/
import Derived.Test.YtgidnkodgdoijaaDoorRows
import GoSem.ClaimSeven
namespace Go.Proofs.YtgidnkodgdoijaaDoor
namespace Rows

/-- THE TIED CARD OF 'namedesklaw27.RequestReply'. -/
def requestReplyCard : Claim7 := { stood := { row := requestReplyRow, standIns := [], harness := (true, "68d07596d7ffb97d917bfcc804f49139172b332c0bd8a4e1cb4826d7a725b85a"), looks := false }, kinds := [], alts := [], laidByText := true, laidKinds := [.data, .data, .data], laidTests := true, laidLooks := .later }
def RequestReplyCardSaid : Prop := Claim7.holds Tryd.pinned (.plain (OpenSpec.ofChange requestReplySpec)) requestReplyCard

/-- THE TIED CARD OF 'namedesklaw27.RequestFormat'. -/
def requestFormatCard : Claim7 := { stood := { row := requestFormatRow, standIns := [], harness := (true, "68d07596d7ffb97d917bfcc804f49139172b332c0bd8a4e1cb4826d7a725b85a"), looks := false }, kinds := [], alts := [], laidByText := true, laidKinds := [.data, .data, .data], laidTests := true, laidLooks := .later }
def RequestFormatCardSaid : Prop := Claim7.holds Tryd.pinned (.plain (OpenSpec.ofChange requestFormatSpec)) requestFormatCard

/-- THE TIED CARD OF 'namedesklaw27.RequestRound'. -/
def requestRoundCard : Claim7 := { stood := { row := requestRoundRow, standIns := [], harness := (true, "68d07596d7ffb97d917bfcc804f49139172b332c0bd8a4e1cb4826d7a725b85a"), looks := false }, kinds := [], alts := [], laidByText := true, laidKinds := [.data, .data, .data], laidTests := true, laidLooks := .later }
def RequestRoundCardSaid : Prop := Claim7.holds Tryd.pinned (.plain (OpenSpec.ofChange requestRoundSpec)) requestRoundCard

/-- THE TIED CARD OF 'namedesklaw27.RequestLimits'. -/
def requestLimitsCard : Claim7 := { stood := { row := requestLimitsRow, standIns := [], harness := (true, "68d07596d7ffb97d917bfcc804f49139172b332c0bd8a4e1cb4826d7a725b85a"), looks := false }, kinds := [], alts := [], laidByText := true, laidKinds := [.data, .data, .data], laidTests := true, laidLooks := .later }
def RequestLimitsCardSaid : Prop := Claim7.holds Tryd.pinned (.plain (OpenSpec.ofChange requestLimitsSpec)) requestLimitsCard

/-- THE SECOND FORM's CARD OF 'namedesklaw27.RequestReply'. -/
def requestReplyUptoCard : Claim7 := { stood := { row := requestReplyUptoRow, standIns := [], harness := (true, "68d07596d7ffb97d917bfcc804f49139172b332c0bd8a4e1cb4826d7a725b85a"), looks := false }, kinds := [], alts := [], laidByText := true, laidKinds := [.data, .data, .data], laidTests := true, laidLooks := .later }
def RequestReplyUptoCardSaid : Prop := Claim7.holds Tryd.pinned (.plain (OpenSpec.upto requestReplySpec)) requestReplyUptoCard

/-- THE SECOND FORM's CARD OF 'namedesklaw27.RequestFormat'. -/
def requestFormatUptoCard : Claim7 := { stood := { row := requestFormatUptoRow, standIns := [], harness := (true, "68d07596d7ffb97d917bfcc804f49139172b332c0bd8a4e1cb4826d7a725b85a"), looks := false }, kinds := [], alts := [], laidByText := true, laidKinds := [.data, .data, .data], laidTests := true, laidLooks := .later }
def RequestFormatUptoCardSaid : Prop := Claim7.holds Tryd.pinned (.plain (OpenSpec.upto requestFormatSpec)) requestFormatUptoCard

/-- THE SECOND FORM's CARD OF 'namedesklaw27.RequestRound'. -/
def requestRoundUptoCard : Claim7 := { stood := { row := requestRoundUptoRow, standIns := [], harness := (true, "68d07596d7ffb97d917bfcc804f49139172b332c0bd8a4e1cb4826d7a725b85a"), looks := false }, kinds := [], alts := [], laidByText := true, laidKinds := [.data, .data, .data], laidTests := true, laidLooks := .later }
def RequestRoundUptoCardSaid : Prop := Claim7.holds Tryd.pinned (.plain (OpenSpec.upto requestRoundSpec)) requestRoundUptoCard

/-- THE SECOND FORM's CARD OF 'namedesklaw27.RequestLimits'. -/
def requestLimitsUptoCard : Claim7 := { stood := { row := requestLimitsUptoRow, standIns := [], harness := (true, "68d07596d7ffb97d917bfcc804f49139172b332c0bd8a4e1cb4826d7a725b85a"), looks := false }, kinds := [], alts := [], laidByText := true, laidKinds := [.data, .data, .data], laidTests := true, laidLooks := .later }
def RequestLimitsUptoCardSaid : Prop := Claim7.holds Tryd.pinned (.plain (OpenSpec.upto requestLimitsSpec)) requestLimitsUptoCard
end Rows
end Go.Proofs.YtgidnkodgdoijaaDoor
