/-
  No cell of these rows narrows 'for every input' (looked for: loops, veiled, ifaces, maps, wideKeys, modest, calm, conditions, laid).
  DERIVED. THE GIVEN ROWS OF THIS SEAT. 3 by the template 'for every input the law returns true; each argument reads behind the call as it read before'; 0 by the template 'total and deterministic' (their statements: YtgidnkodgdoijaaTotals.lean).
  GIVEN WITH THE SEED: the statements are not yours to turn. If you find one false, say at which input.
  Laid BY PROGRAM, IN A SANDBOX (cutbox-rows.mjs): the forced cells as the released guide's own fill.sh prints them over the translation 1d3e485976665a45… (all of the seat's roots in one cut). By AI agents, Wed Nov 11 2026. No macro, syntax, notation, axiom, sorry.
-/
import Derived.Test.YtgidnkodgdoijaaChecked
import GoSem.Claim
import GoSem.ClaimJoined
import GoSem.ClaimMapViews
import Derived.JoinedTies
import Derived.KernelRfl
namespace Go.Proofs.Ytgidnkodgdoijaa
/- THE CELL 'sum', in the pinned program and in every row, IS THE sha256 OF THE DUMP (.gsa) THAT YtgidnkodgdoijaaProg.lean LOADS. Nothing in Lean hashes anything: it is a label: what it is worth is what the hold of that sum in a sandbox is worth. -/
noncomputable def Try.pinned : Pinned := { name := "ytgidnkodgdoijaa", sum := "1d3e485976665a45502ade449f28a1a066a513e89effed7d707902e55c8d1b92", checked := Try.checked }
namespace Rows
def none {H : Type} : Left H := { results := [], args := [] }

/-- 'namedesklaw27.RequestParse': WHATEVER THE INPUT: true; the input reads as it did. -/
def requestParseSpec : ChangeSpec := { name := "requestParse", fn := fun _ => fun
  | [d1, d2] => { results := [.lit (.bool true)], args := [d1, d2] }
  | _ => none }
def requestParseRow : OpenClaim := { program := "ytgidnkodgdoijaa", sum := "1d3e485976665a45502ade449f28a1a066a513e89effed7d707902e55c8d1b92", func := "namedesk/namedesklaw27.RequestParse", spec := "requestParse", inPlace := ["internal/bytealg.IndexByteString"], apart := false }
def RequestParseSaid : Prop := requestParseRow.holds Try.pinned (OpenSpec.ofChange requestParseSpec)

/-- ITS FALSE NEIGHBOUR: 'it returns false'. Refute it at one input. -/
def requestParseWrong : ChangeSpec := { name := "requestParse", fn := fun _ => fun
  | [d1, d2] => { results := [.lit (.bool false)], args := [d1, d2] }
  | _ => none }
def RequestParseWrongFalsely : Prop := requestParseRow.holds Try.pinned (OpenSpec.ofChange requestParseWrong)

/-- 'namedesklaw27.RequestQuote': WHATEVER THE INPUT: true; the input reads as it did. -/
def requestQuoteSpec : ChangeSpec := { name := "requestQuote", fn := fun _ => fun
  | [d1, d2, d3] => { results := [.lit (.bool true)], args := [d1, d2, d3] }
  | _ => none }
def requestQuoteRow : OpenClaim := { program := "ytgidnkodgdoijaa", sum := "1d3e485976665a45502ade449f28a1a066a513e89effed7d707902e55c8d1b92", func := "namedesk/namedesklaw27.RequestQuote", spec := "requestQuote", inPlace := ["internal/bytealg.IndexByteString", "internal/abi.NoEscape"], apart := false }
def RequestQuoteSaid : Prop := requestQuoteRow.holds Try.pinned (OpenSpec.ofChange requestQuoteSpec)

/-- ITS FALSE NEIGHBOUR: 'it returns false'. Refute it at one input. -/
def requestQuoteWrong : ChangeSpec := { name := "requestQuote", fn := fun _ => fun
  | [d1, d2, d3] => { results := [.lit (.bool false)], args := [d1, d2, d3] }
  | _ => none }
def RequestQuoteWrongFalsely : Prop := requestQuoteRow.holds Try.pinned (OpenSpec.ofChange requestQuoteWrong)

/-- 'namedesklaw27.RequestBack': WHATEVER THE INPUT: true; the input reads as it did. -/
def requestBackSpec : ChangeSpec := { name := "requestBack", fn := fun _ => fun
  | [d] => { results := [.lit (.bool true)], args := [d] }
  | _ => none }
def requestBackRow : OpenClaim := { program := "ytgidnkodgdoijaa", sum := "1d3e485976665a45502ade449f28a1a066a513e89effed7d707902e55c8d1b92", func := "namedesk/namedesklaw27.RequestBack", spec := "requestBack", inPlace := ["internal/abi.NoEscape", "internal/bytealg.IndexByteString"], apart := false }
def RequestBackSaid : Prop := requestBackRow.holds Try.pinned (OpenSpec.ofChange requestBackSpec)

/-- ITS FALSE NEIGHBOUR: 'it returns false'. Refute it at one input. -/
def requestBackWrong : ChangeSpec := { name := "requestBack", fn := fun _ => fun
  | [d] => { results := [.lit (.bool false)], args := [d] }
  | _ => none }
def RequestBackWrongFalsely : Prop := requestBackRow.holds Try.pinned (OpenSpec.ofChange requestBackWrong)

/- THE SECOND FORM. 'bulk': how many values and letters a reading holds, each counted each time it is reached (what is shared counts as often as it is met; a slice's spare places count too). A statement '..UptoSaid' is the law's where the arguments, and the package variables that the reading takes, are together of bulk at most 1048576: NARROWER than '..Said'. Prove '..Said' where nothing that the law and all that it calls make is longer than what came in: it says more and counts as full. Else prove '..UptoSaid'. A law counts once. -/
mutual
def uptoBulk {H : Type} : DataW H → Nat
  | .lit (.string bytes) => bytes.length + 1
  | .lit _ => 1
  | .nil => 1
  | .ptr d => uptoBulk d + 1
  | .slice elems spare => uptoBulkAll elems + uptoBulkAll spare + 1
  | .agg parts => uptoBulkAll parts + 1
  | .iface _ d => uptoBulk d + 1
  | .map entries => uptoBulkEntries entries + 1
  | .held _ => 1
def uptoBulkAll {H : Type} : List (DataW H) → Nat
  | [] => 0
  | d :: r => uptoBulk d + uptoBulkAll r
def uptoBulkEntries {H : Type} : List (Lit × DataW H) → Nat
  | [] => 0
  | x :: r => uptoBulkEntry x + uptoBulkEntries r
def uptoBulkEntry {H : Type} : Lit × DataW H → Nat
  | (.string bytes, d) => bytes.length + uptoBulk d + 1
  | (_, d) => uptoBulk d + 1
 end
def uptoSmall : (H : Type) → List (DataW H) → Bool := fun _ ds => decide (uptoBulkAll ds ≤ 1048576)
def OpenSpec.upto (s : _root_.Go.ChangeSpec) : _root_.Go.OpenSpec := { _root_.Go.OpenSpec.ofChange s with cond := some uptoSmall }

/-- 'namedesklaw27.RequestParse', WHERE WHAT IT READS IS OF BULK AT MOST 1048576: true; the input reads as it did. -/
def requestParseUptoRow : OpenClaim := { program := "ytgidnkodgdoijaa", sum := "1d3e485976665a45502ade449f28a1a066a513e89effed7d707902e55c8d1b92", func := "namedesk/namedesklaw27.RequestParse", spec := "requestParse", inPlace := ["internal/bytealg.IndexByteString"], apart := false, narrowed := true }
def RequestParseUptoSaid : Prop := requestParseUptoRow.holds Try.pinned (OpenSpec.upto requestParseSpec)

/-- 'namedesklaw27.RequestQuote', WHERE WHAT IT READS IS OF BULK AT MOST 1048576: true; the input reads as it did. -/
def requestQuoteUptoRow : OpenClaim := { program := "ytgidnkodgdoijaa", sum := "1d3e485976665a45502ade449f28a1a066a513e89effed7d707902e55c8d1b92", func := "namedesk/namedesklaw27.RequestQuote", spec := "requestQuote", inPlace := ["internal/bytealg.IndexByteString", "internal/abi.NoEscape"], apart := false, narrowed := true }
def RequestQuoteUptoSaid : Prop := requestQuoteUptoRow.holds Try.pinned (OpenSpec.upto requestQuoteSpec)

/-- 'namedesklaw27.RequestBack', WHERE WHAT IT READS IS OF BULK AT MOST 1048576: true; the input reads as it did. -/
def requestBackUptoRow : OpenClaim := { program := "ytgidnkodgdoijaa", sum := "1d3e485976665a45502ade449f28a1a066a513e89effed7d707902e55c8d1b92", func := "namedesk/namedesklaw27.RequestBack", spec := "requestBack", inPlace := ["internal/abi.NoEscape", "internal/bytealg.IndexByteString"], apart := false, narrowed := true }
def RequestBackUptoSaid : Prop := requestBackUptoRow.holds Try.pinned (OpenSpec.upto requestBackSpec)

end Rows
end Go.Proofs.Ytgidnkodgdoijaa
