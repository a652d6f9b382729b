/-
  No cell of these rows narrows 'for every input' (looked for: loops, veiled, ifaces, maps, wideKeys, modest, calm, conditions, laid).
  DERIVED. THE GIVEN ROWS OF THIS SEAT. 12 by the template 'for every input the law returns true; each argument reads behind the call as it read before'; 0 by the template 'total and deterministic' (their statements: YtnckclbgpoankaaTotals.lean).
  GIVEN WITH THE SEED: the statements are not yours to turn. If you find one false, say at which input.
  Laid BY PROGRAM, IN A SANDBOX (cutbox-rows.mjs): the forced cells as the released guide's own fill.sh prints them over the translation 2652d8d218997802… (all of the seat's roots in one cut). By AI agents, Wed Nov 11 2026. No macro, syntax, notation, axiom, sorry.
-/
import Derived.Test.YtnckclbgpoankaaChecked
import GoSem.Claim
import GoSem.ClaimJoined
import GoSem.ClaimMapViews
import Derived.JoinedTies
import Derived.KernelRfl
namespace Go.Proofs.Ytnckclbgpoankaa
/- THE CELL 'sum', in the pinned program and in every row, IS THE sha256 OF THE DUMP (.gsa) THAT YtnckclbgpoankaaProg.lean LOADS. Nothing in Lean hashes anything: it is a label: what it is worth is what the hold of that sum in a sandbox is worth. -/
noncomputable def Try.pinned : Pinned := { name := "ytnckclbgpoankaa", sum := "2652d8d218997802ddaa6c2cbd9131310b23f0c87b3d220be1342c4ea0ad4acc", checked := Try.checked }
namespace Rows
def none {H : Type} : Left H := { results := [], args := [] }

/-- 'namedesklaw29.MailboxNew': WHATEVER THE INPUT: true; the input reads as it did. -/
def mailboxNewSpec : ChangeSpec := { name := "mailboxNew", fn := fun _ => fun
  | [d1, d2] => { results := [.lit (.bool true)], args := [d1, d2] }
  | _ => none }
def mailboxNewRow : OpenClaim := { program := "ytnckclbgpoankaa", sum := "2652d8d218997802ddaa6c2cbd9131310b23f0c87b3d220be1342c4ea0ad4acc", func := "namedesk/namedesklaw29.MailboxNew", spec := "mailboxNew", apart := false }
def MailboxNewSaid : Prop := mailboxNewRow.holds Try.pinned (OpenSpec.ofChange mailboxNewSpec)

/-- ITS FALSE NEIGHBOUR: 'it returns false'. Refute it at one input. -/
def mailboxNewWrong : ChangeSpec := { name := "mailboxNew", fn := fun _ => fun
  | [d1, d2] => { results := [.lit (.bool false)], args := [d1, d2] }
  | _ => none }
def MailboxNewWrongFalsely : Prop := mailboxNewRow.holds Try.pinned (OpenSpec.ofChange mailboxNewWrong)

/-- 'namedesklaw12.SplitLong': WHATEVER THE INPUT: true; the input reads as it did. -/
def splitLongSpec : ChangeSpec := { name := "splitLong", fn := fun _ => fun
  | [d1, d2] => { results := [.lit (.bool true)], args := [d1, d2] }
  | _ => none }
def splitLongRow : OpenClaim := { program := "ytnckclbgpoankaa", sum := "2652d8d218997802ddaa6c2cbd9131310b23f0c87b3d220be1342c4ea0ad4acc", func := "namedesk/namedesklaw12.SplitLong", spec := "splitLong", apart := false }
def SplitLongSaid : Prop := splitLongRow.holds Try.pinned (OpenSpec.ofChange splitLongSpec)

/-- ITS FALSE NEIGHBOUR: 'it returns false'. Refute it at one input. -/
def splitLongWrong : ChangeSpec := { name := "splitLong", fn := fun _ => fun
  | [d1, d2] => { results := [.lit (.bool false)], args := [d1, d2] }
  | _ => none }
def SplitLongWrongFalsely : Prop := splitLongRow.holds Try.pinned (OpenSpec.ofChange splitLongWrong)

/-- 'namedesklaw29.MailboxScript': WHATEVER THE INPUT: true; the input reads as it did. -/
def mailboxScriptSpec : ChangeSpec := { name := "mailboxScript", fn := fun _ => fun
  | [d1, d2, d3] => { results := [.lit (.bool true)], args := [d1, d2, d3] }
  | _ => none }
def mailboxScriptRow : OpenClaim := { program := "ytnckclbgpoankaa", sum := "2652d8d218997802ddaa6c2cbd9131310b23f0c87b3d220be1342c4ea0ad4acc", func := "namedesk/namedesklaw29.MailboxScript", spec := "mailboxScript", apart := false }
def MailboxScriptSaid : Prop := mailboxScriptRow.holds Try.pinned (OpenSpec.ofChange mailboxScriptSpec)

/-- ITS FALSE NEIGHBOUR: 'it returns false'. Refute it at one input. -/
def mailboxScriptWrong : ChangeSpec := { name := "mailboxScript", fn := fun _ => fun
  | [d1, d2, d3] => { results := [.lit (.bool false)], args := [d1, d2, d3] }
  | _ => none }
def MailboxScriptWrongFalsely : Prop := mailboxScriptRow.holds Try.pinned (OpenSpec.ofChange mailboxScriptWrong)

/-- 'namedesklaw29.MailboxOrder': WHATEVER THE INPUT: true; the input reads as it did. -/
def mailboxOrderSpec : ChangeSpec := { name := "mailboxOrder", fn := fun _ => fun
  | [d] => { results := [.lit (.bool true)], args := [d] }
  | _ => none }
def mailboxOrderRow : OpenClaim := { program := "ytnckclbgpoankaa", sum := "2652d8d218997802ddaa6c2cbd9131310b23f0c87b3d220be1342c4ea0ad4acc", func := "namedesk/namedesklaw29.MailboxOrder", spec := "mailboxOrder", apart := false }
def MailboxOrderSaid : Prop := mailboxOrderRow.holds Try.pinned (OpenSpec.ofChange mailboxOrderSpec)

/-- ITS FALSE NEIGHBOUR: 'it returns false'. Refute it at one input. -/
def mailboxOrderWrong : ChangeSpec := { name := "mailboxOrder", fn := fun _ => fun
  | [d] => { results := [.lit (.bool false)], args := [d] }
  | _ => none }
def MailboxOrderWrongFalsely : Prop := mailboxOrderRow.holds Try.pinned (OpenSpec.ofChange mailboxOrderWrong)

/-- 'namedesklaw29.MailboxTwo': WHATEVER THE INPUT: true; the input reads as it did. -/
def mailboxTwoSpec : ChangeSpec := { name := "mailboxTwo", fn := fun _ => fun
  | [d] => { results := [.lit (.bool true)], args := [d] }
  | _ => none }
def mailboxTwoRow : OpenClaim := { program := "ytnckclbgpoankaa", sum := "2652d8d218997802ddaa6c2cbd9131310b23f0c87b3d220be1342c4ea0ad4acc", func := "namedesk/namedesklaw29.MailboxTwo", spec := "mailboxTwo", apart := false }
def MailboxTwoSaid : Prop := mailboxTwoRow.holds Try.pinned (OpenSpec.ofChange mailboxTwoSpec)

/-- ITS FALSE NEIGHBOUR: 'it returns false'. Refute it at one input. -/
def mailboxTwoWrong : ChangeSpec := { name := "mailboxTwo", fn := fun _ => fun
  | [d] => { results := [.lit (.bool false)], args := [d] }
  | _ => none }
def MailboxTwoWrongFalsely : Prop := mailboxTwoRow.holds Try.pinned (OpenSpec.ofChange mailboxTwoWrong)

/-- 'namedesklaw5.HangulOne': WHATEVER THE INPUT: true; the input reads as it did. -/
def hangulOneSpec : ChangeSpec := { name := "hangulOne", fn := fun _ => fun
  | [d] => { results := [.lit (.bool true)], args := [d] }
  | _ => none }
def hangulOneRow : OpenClaim := { program := "ytnckclbgpoankaa", sum := "2652d8d218997802ddaa6c2cbd9131310b23f0c87b3d220be1342c4ea0ad4acc", func := "namedesk/namedesklaw5.HangulOne", spec := "hangulOne", apart := false }
def HangulOneSaid : Prop := hangulOneRow.holds Try.pinned (OpenSpec.ofChange hangulOneSpec)

/-- ITS FALSE NEIGHBOUR: 'it returns false'. Refute it at one input. -/
def hangulOneWrong : ChangeSpec := { name := "hangulOne", fn := fun _ => fun
  | [d] => { results := [.lit (.bool false)], args := [d] }
  | _ => none }
def HangulOneWrongFalsely : Prop := hangulOneRow.holds Try.pinned (OpenSpec.ofChange hangulOneWrong)

/-- 'namedesklaw5.HangulCompose': WHATEVER THE INPUT: true; the input reads as it did. -/
def hangulComposeSpec : ChangeSpec := { name := "hangulCompose", fn := fun _ => fun
  | [d1, d2] => { results := [.lit (.bool true)], args := [d1, d2] }
  | _ => none }
def hangulComposeRow : OpenClaim := { program := "ytnckclbgpoankaa", sum := "2652d8d218997802ddaa6c2cbd9131310b23f0c87b3d220be1342c4ea0ad4acc", func := "namedesk/namedesklaw5.HangulCompose", spec := "hangulCompose", apart := false }
def HangulComposeSaid : Prop := hangulComposeRow.holds Try.pinned (OpenSpec.ofChange hangulComposeSpec)

/-- ITS FALSE NEIGHBOUR: 'it returns false'. Refute it at one input. -/
def hangulComposeWrong : ChangeSpec := { name := "hangulCompose", fn := fun _ => fun
  | [d1, d2] => { results := [.lit (.bool false)], args := [d1, d2] }
  | _ => none }
def HangulComposeWrongFalsely : Prop := hangulComposeRow.holds Try.pinned (OpenSpec.ofChange hangulComposeWrong)

/-- 'namedesklaw5.HangulBack': WHATEVER THE INPUT: true; the input reads as it did. -/
def hangulBackSpec : ChangeSpec := { name := "hangulBack", fn := fun _ => fun
  | [d] => { results := [.lit (.bool true)], args := [d] }
  | _ => none }
def hangulBackRow : OpenClaim := { program := "ytnckclbgpoankaa", sum := "2652d8d218997802ddaa6c2cbd9131310b23f0c87b3d220be1342c4ea0ad4acc", func := "namedesk/namedesklaw5.HangulBack", spec := "hangulBack", apart := false }
def HangulBackSaid : Prop := hangulBackRow.holds Try.pinned (OpenSpec.ofChange hangulBackSpec)

/-- ITS FALSE NEIGHBOUR: 'it returns false'. Refute it at one input. -/
def hangulBackWrong : ChangeSpec := { name := "hangulBack", fn := fun _ => fun
  | [d] => { results := [.lit (.bool false)], args := [d] }
  | _ => none }
def HangulBackWrongFalsely : Prop := hangulBackRow.holds Try.pinned (OpenSpec.ofChange hangulBackWrong)

/-- 'namedesklaw5.HangulParts': WHATEVER THE INPUT: true; the input reads as it did. -/
def hangulPartsSpec : ChangeSpec := { name := "hangulParts", fn := fun _ => fun
  | [d1, d2, d3] => { results := [.lit (.bool true)], args := [d1, d2, d3] }
  | _ => none }
def hangulPartsRow : OpenClaim := { program := "ytnckclbgpoankaa", sum := "2652d8d218997802ddaa6c2cbd9131310b23f0c87b3d220be1342c4ea0ad4acc", func := "namedesk/namedesklaw5.HangulParts", spec := "hangulParts", apart := false }
def HangulPartsSaid : Prop := hangulPartsRow.holds Try.pinned (OpenSpec.ofChange hangulPartsSpec)

/-- ITS FALSE NEIGHBOUR: 'it returns false'. Refute it at one input. -/
def hangulPartsWrong : ChangeSpec := { name := "hangulParts", fn := fun _ => fun
  | [d1, d2, d3] => { results := [.lit (.bool false)], args := [d1, d2, d3] }
  | _ => none }
def HangulPartsWrongFalsely : Prop := hangulPartsRow.holds Try.pinned (OpenSpec.ofChange hangulPartsWrong)

/-- 'namedesklaw5.HangulClosed': WHATEVER THE INPUT: true; the input reads as it did. -/
def hangulClosedSpec : ChangeSpec := { name := "hangulClosed", fn := fun _ => fun
  | [d1, d2] => { results := [.lit (.bool true)], args := [d1, d2] }
  | _ => none }
def hangulClosedRow : OpenClaim := { program := "ytnckclbgpoankaa", sum := "2652d8d218997802ddaa6c2cbd9131310b23f0c87b3d220be1342c4ea0ad4acc", func := "namedesk/namedesklaw5.HangulClosed", spec := "hangulClosed", apart := false }
def HangulClosedSaid : Prop := hangulClosedRow.holds Try.pinned (OpenSpec.ofChange hangulClosedSpec)

/-- ITS FALSE NEIGHBOUR: 'it returns false'. Refute it at one input. -/
def hangulClosedWrong : ChangeSpec := { name := "hangulClosed", fn := fun _ => fun
  | [d1, d2] => { results := [.lit (.bool false)], args := [d1, d2] }
  | _ => none }
def HangulClosedWrongFalsely : Prop := hangulClosedRow.holds Try.pinned (OpenSpec.ofChange hangulClosedWrong)

/-- 'namedesklaw12.SplitBack': WHATEVER THE INPUT: true; the input reads as it did. -/
def splitBackSpec : ChangeSpec := { name := "splitBack", fn := fun _ => fun
  | [d1, d2] => { results := [.lit (.bool true)], args := [d1, d2] }
  | _ => none }
def splitBackRow : OpenClaim := { program := "ytnckclbgpoankaa", sum := "2652d8d218997802ddaa6c2cbd9131310b23f0c87b3d220be1342c4ea0ad4acc", func := "namedesk/namedesklaw12.SplitBack", spec := "splitBack", apart := false }
def SplitBackSaid : Prop := splitBackRow.holds Try.pinned (OpenSpec.ofChange splitBackSpec)

/-- ITS FALSE NEIGHBOUR: 'it returns false'. Refute it at one input. -/
def splitBackWrong : ChangeSpec := { name := "splitBack", fn := fun _ => fun
  | [d1, d2] => { results := [.lit (.bool false)], args := [d1, d2] }
  | _ => none }
def SplitBackWrongFalsely : Prop := splitBackRow.holds Try.pinned (OpenSpec.ofChange splitBackWrong)

/-- 'namedesklaw12.SplitKeeps': WHATEVER THE INPUT: true; the input reads as it did. -/
def splitKeepsSpec : ChangeSpec := { name := "splitKeeps", fn := fun _ => fun
  | [d] => { results := [.lit (.bool true)], args := [d] }
  | _ => none }
def splitKeepsRow : OpenClaim := { program := "ytnckclbgpoankaa", sum := "2652d8d218997802ddaa6c2cbd9131310b23f0c87b3d220be1342c4ea0ad4acc", func := "namedesk/namedesklaw12.SplitKeeps", spec := "splitKeeps", apart := false }
def SplitKeepsSaid : Prop := splitKeepsRow.holds Try.pinned (OpenSpec.ofChange splitKeepsSpec)

/-- ITS FALSE NEIGHBOUR: 'it returns false'. Refute it at one input. -/
def splitKeepsWrong : ChangeSpec := { name := "splitKeeps", fn := fun _ => fun
  | [d] => { results := [.lit (.bool false)], args := [d] }
  | _ => none }
def SplitKeepsWrongFalsely : Prop := splitKeepsRow.holds Try.pinned (OpenSpec.ofChange splitKeepsWrong)

/- THE SECOND FORM. 'bulk': how many values and letters a reading holds, each counted each time it is reached (what is shared counts as often as it is met; a slice's spare places count too). A statement '..UptoSaid' is the law's where the arguments, and the package variables that the reading takes, are together of bulk at most 1048576: NARROWER than '..Said'. Prove '..Said' where nothing that the law and all that it calls make is longer than what came in: it says more and counts as full. Else prove '..UptoSaid'. A law counts once. -/
mutual
def uptoBulk {H : Type} : DataW H → Nat
  | .lit (.string bytes) => bytes.length + 1
  | .lit _ => 1
  | .nil => 1
  | .ptr d => uptoBulk d + 1
  | .slice elems spare => uptoBulkAll elems + uptoBulkAll spare + 1
  | .agg parts => uptoBulkAll parts + 1
  | .iface _ d => uptoBulk d + 1
  | .map entries => uptoBulkEntries entries + 1
  | .held _ => 1
def uptoBulkAll {H : Type} : List (DataW H) → Nat
  | [] => 0
  | d :: r => uptoBulk d + uptoBulkAll r
def uptoBulkEntries {H : Type} : List (Lit × DataW H) → Nat
  | [] => 0
  | x :: r => uptoBulkEntry x + uptoBulkEntries r
def uptoBulkEntry {H : Type} : Lit × DataW H → Nat
  | (.string bytes, d) => bytes.length + uptoBulk d + 1
  | (_, d) => uptoBulk d + 1
 end
def uptoSmall : (H : Type) → List (DataW H) → Bool := fun _ ds => decide (uptoBulkAll ds ≤ 1048576)
def OpenSpec.upto (s : _root_.Go.ChangeSpec) : _root_.Go.OpenSpec := { _root_.Go.OpenSpec.ofChange s with cond := some uptoSmall }

/-- 'namedesklaw29.MailboxNew', WHERE WHAT IT READS IS OF BULK AT MOST 1048576: true; the input reads as it did. -/
def mailboxNewUptoRow : OpenClaim := { program := "ytnckclbgpoankaa", sum := "2652d8d218997802ddaa6c2cbd9131310b23f0c87b3d220be1342c4ea0ad4acc", func := "namedesk/namedesklaw29.MailboxNew", spec := "mailboxNew", apart := false, narrowed := true }
def MailboxNewUptoSaid : Prop := mailboxNewUptoRow.holds Try.pinned (OpenSpec.upto mailboxNewSpec)

/-- 'namedesklaw12.SplitLong', WHERE WHAT IT READS IS OF BULK AT MOST 1048576: true; the input reads as it did. -/
def splitLongUptoRow : OpenClaim := { program := "ytnckclbgpoankaa", sum := "2652d8d218997802ddaa6c2cbd9131310b23f0c87b3d220be1342c4ea0ad4acc", func := "namedesk/namedesklaw12.SplitLong", spec := "splitLong", apart := false, narrowed := true }
def SplitLongUptoSaid : Prop := splitLongUptoRow.holds Try.pinned (OpenSpec.upto splitLongSpec)

/-- 'namedesklaw29.MailboxScript', WHERE WHAT IT READS IS OF BULK AT MOST 1048576: true; the input reads as it did. -/
def mailboxScriptUptoRow : OpenClaim := { program := "ytnckclbgpoankaa", sum := "2652d8d218997802ddaa6c2cbd9131310b23f0c87b3d220be1342c4ea0ad4acc", func := "namedesk/namedesklaw29.MailboxScript", spec := "mailboxScript", apart := false, narrowed := true }
def MailboxScriptUptoSaid : Prop := mailboxScriptUptoRow.holds Try.pinned (OpenSpec.upto mailboxScriptSpec)

/-- 'namedesklaw29.MailboxOrder', WHERE WHAT IT READS IS OF BULK AT MOST 1048576: true; the input reads as it did. -/
def mailboxOrderUptoRow : OpenClaim := { program := "ytnckclbgpoankaa", sum := "2652d8d218997802ddaa6c2cbd9131310b23f0c87b3d220be1342c4ea0ad4acc", func := "namedesk/namedesklaw29.MailboxOrder", spec := "mailboxOrder", apart := false, narrowed := true }
def MailboxOrderUptoSaid : Prop := mailboxOrderUptoRow.holds Try.pinned (OpenSpec.upto mailboxOrderSpec)

/-- 'namedesklaw29.MailboxTwo', WHERE WHAT IT READS IS OF BULK AT MOST 1048576: true; the input reads as it did. -/
def mailboxTwoUptoRow : OpenClaim := { program := "ytnckclbgpoankaa", sum := "2652d8d218997802ddaa6c2cbd9131310b23f0c87b3d220be1342c4ea0ad4acc", func := "namedesk/namedesklaw29.MailboxTwo", spec := "mailboxTwo", apart := false, narrowed := true }
def MailboxTwoUptoSaid : Prop := mailboxTwoUptoRow.holds Try.pinned (OpenSpec.upto mailboxTwoSpec)

/-- 'namedesklaw5.HangulOne', WHERE WHAT IT READS IS OF BULK AT MOST 1048576: true; the input reads as it did. -/
def hangulOneUptoRow : OpenClaim := { program := "ytnckclbgpoankaa", sum := "2652d8d218997802ddaa6c2cbd9131310b23f0c87b3d220be1342c4ea0ad4acc", func := "namedesk/namedesklaw5.HangulOne", spec := "hangulOne", apart := false, narrowed := true }
def HangulOneUptoSaid : Prop := hangulOneUptoRow.holds Try.pinned (OpenSpec.upto hangulOneSpec)

/-- 'namedesklaw5.HangulCompose', WHERE WHAT IT READS IS OF BULK AT MOST 1048576: true; the input reads as it did. -/
def hangulComposeUptoRow : OpenClaim := { program := "ytnckclbgpoankaa", sum := "2652d8d218997802ddaa6c2cbd9131310b23f0c87b3d220be1342c4ea0ad4acc", func := "namedesk/namedesklaw5.HangulCompose", spec := "hangulCompose", apart := false, narrowed := true }
def HangulComposeUptoSaid : Prop := hangulComposeUptoRow.holds Try.pinned (OpenSpec.upto hangulComposeSpec)

/-- 'namedesklaw5.HangulBack', WHERE WHAT IT READS IS OF BULK AT MOST 1048576: true; the input reads as it did. -/
def hangulBackUptoRow : OpenClaim := { program := "ytnckclbgpoankaa", sum := "2652d8d218997802ddaa6c2cbd9131310b23f0c87b3d220be1342c4ea0ad4acc", func := "namedesk/namedesklaw5.HangulBack", spec := "hangulBack", apart := false, narrowed := true }
def HangulBackUptoSaid : Prop := hangulBackUptoRow.holds Try.pinned (OpenSpec.upto hangulBackSpec)

/-- 'namedesklaw5.HangulParts', WHERE WHAT IT READS IS OF BULK AT MOST 1048576: true; the input reads as it did. -/
def hangulPartsUptoRow : OpenClaim := { program := "ytnckclbgpoankaa", sum := "2652d8d218997802ddaa6c2cbd9131310b23f0c87b3d220be1342c4ea0ad4acc", func := "namedesk/namedesklaw5.HangulParts", spec := "hangulParts", apart := false, narrowed := true }
def HangulPartsUptoSaid : Prop := hangulPartsUptoRow.holds Try.pinned (OpenSpec.upto hangulPartsSpec)

/-- 'namedesklaw5.HangulClosed', WHERE WHAT IT READS IS OF BULK AT MOST 1048576: true; the input reads as it did. -/
def hangulClosedUptoRow : OpenClaim := { program := "ytnckclbgpoankaa", sum := "2652d8d218997802ddaa6c2cbd9131310b23f0c87b3d220be1342c4ea0ad4acc", func := "namedesk/namedesklaw5.HangulClosed", spec := "hangulClosed", apart := false, narrowed := true }
def HangulClosedUptoSaid : Prop := hangulClosedUptoRow.holds Try.pinned (OpenSpec.upto hangulClosedSpec)

/-- 'namedesklaw12.SplitBack', WHERE WHAT IT READS IS OF BULK AT MOST 1048576: true; the input reads as it did. -/
def splitBackUptoRow : OpenClaim := { program := "ytnckclbgpoankaa", sum := "2652d8d218997802ddaa6c2cbd9131310b23f0c87b3d220be1342c4ea0ad4acc", func := "namedesk/namedesklaw12.SplitBack", spec := "splitBack", apart := false, narrowed := true }
def SplitBackUptoSaid : Prop := splitBackUptoRow.holds Try.pinned (OpenSpec.upto splitBackSpec)

/-- 'namedesklaw12.SplitKeeps', WHERE WHAT IT READS IS OF BULK AT MOST 1048576: true; the input reads as it did. -/
def splitKeepsUptoRow : OpenClaim := { program := "ytnckclbgpoankaa", sum := "2652d8d218997802ddaa6c2cbd9131310b23f0c87b3d220be1342c4ea0ad4acc", func := "namedesk/namedesklaw12.SplitKeeps", spec := "splitKeeps", apart := false, narrowed := true }
def SplitKeepsUptoSaid : Prop := splitKeepsUptoRow.holds Try.pinned (OpenSpec.upto splitKeepsSpec)

end Rows
end Go.Proofs.Ytnckclbgpoankaa
