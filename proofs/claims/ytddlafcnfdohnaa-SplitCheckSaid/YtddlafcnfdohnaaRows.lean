/-
  No cell of these rows narrows 'for every input' (looked for: loops, veiled, ifaces, maps, wideKeys, modest, calm, conditions, laid).
  DERIVED. THE GIVEN ROWS OF THIS SEAT. 4 by the template 'for every input the law returns true; each argument reads behind the call as it read before'; 0 by the template 'total and deterministic' (their statements: YtddlafcnfdohnaaTotals.lean).
  GIVEN WITH THE SEED: the statements are not yours to turn. If you find one false, say at which input.
  Laid BY PROGRAM, IN A SANDBOX (cutbox-rows.mjs): the forced cells as the released guide's own fill.sh prints them over the translation 619adeb07e275c98… (all of the seat's roots in one cut). By AI agents, Wed Nov 11 2026. No macro, syntax, notation, axiom, sorry.
-/
import Derived.Test.YtddlafcnfdohnaaChecked
import GoSem.Claim
import GoSem.ClaimJoined
import GoSem.ClaimMapViews
import Derived.JoinedTies
import Derived.KernelRfl
namespace Go.Proofs.Ytddlafcnfdohnaa
/- THE CELL 'sum', in the pinned program and in every row, IS THE sha256 OF THE DUMP (.gsa) THAT YtddlafcnfdohnaaProg.lean LOADS. Nothing in Lean hashes anything: it is a label: what it is worth is what the hold of that sum in a sandbox is worth. -/
noncomputable def Try.pinned : Pinned := { name := "ytddlafcnfdohnaa", sum := "619adeb07e275c989d08bd304041bfd4357c1f847309a3c64714e0a81be18f2d", checked := Try.checked }
namespace Rows
def none {H : Type} : Left H := { results := [], args := [] }

/-- 'namedesklaw12.SplitLong': WHATEVER THE INPUT: true; the input reads as it did. -/
def splitLongSpec : ChangeSpec := { name := "splitLong", fn := fun _ => fun
  | [d1, d2] => { results := [.lit (.bool true)], args := [d1, d2] }
  | _ => none }
def splitLongRow : OpenClaim := { program := "ytddlafcnfdohnaa", sum := "619adeb07e275c989d08bd304041bfd4357c1f847309a3c64714e0a81be18f2d", func := "namedesk/namedesklaw12.SplitLong", spec := "splitLong", apart := false }
def SplitLongSaid : Prop := splitLongRow.holds Try.pinned (OpenSpec.ofChange splitLongSpec)

/-- ITS FALSE NEIGHBOUR: 'it returns false'. Refute it at one input. -/
def splitLongWrong : ChangeSpec := { name := "splitLong", fn := fun _ => fun
  | [d1, d2] => { results := [.lit (.bool false)], args := [d1, d2] }
  | _ => none }
def SplitLongWrongFalsely : Prop := splitLongRow.holds Try.pinned (OpenSpec.ofChange splitLongWrong)

/-- 'namedesklaw12.SplitBack': WHATEVER THE INPUT: true; the input reads as it did. -/
def splitBackSpec : ChangeSpec := { name := "splitBack", fn := fun _ => fun
  | [d1, d2] => { results := [.lit (.bool true)], args := [d1, d2] }
  | _ => none }
def splitBackRow : OpenClaim := { program := "ytddlafcnfdohnaa", sum := "619adeb07e275c989d08bd304041bfd4357c1f847309a3c64714e0a81be18f2d", func := "namedesk/namedesklaw12.SplitBack", spec := "splitBack", apart := false }
def SplitBackSaid : Prop := splitBackRow.holds Try.pinned (OpenSpec.ofChange splitBackSpec)

/-- ITS FALSE NEIGHBOUR: 'it returns false'. Refute it at one input. -/
def splitBackWrong : ChangeSpec := { name := "splitBack", fn := fun _ => fun
  | [d1, d2] => { results := [.lit (.bool false)], args := [d1, d2] }
  | _ => none }
def SplitBackWrongFalsely : Prop := splitBackRow.holds Try.pinned (OpenSpec.ofChange splitBackWrong)

/-- 'namedesklaw12.SplitKeeps': WHATEVER THE INPUT: true; the input reads as it did. -/
def splitKeepsSpec : ChangeSpec := { name := "splitKeeps", fn := fun _ => fun
  | [d] => { results := [.lit (.bool true)], args := [d] }
  | _ => none }
def splitKeepsRow : OpenClaim := { program := "ytddlafcnfdohnaa", sum := "619adeb07e275c989d08bd304041bfd4357c1f847309a3c64714e0a81be18f2d", func := "namedesk/namedesklaw12.SplitKeeps", spec := "splitKeeps", apart := false }
def SplitKeepsSaid : Prop := splitKeepsRow.holds Try.pinned (OpenSpec.ofChange splitKeepsSpec)

/-- ITS FALSE NEIGHBOUR: 'it returns false'. Refute it at one input. -/
def splitKeepsWrong : ChangeSpec := { name := "splitKeeps", fn := fun _ => fun
  | [d] => { results := [.lit (.bool false)], args := [d] }
  | _ => none }
def SplitKeepsWrongFalsely : Prop := splitKeepsRow.holds Try.pinned (OpenSpec.ofChange splitKeepsWrong)

/-- 'namedesklaw12.SplitCheck': WHATEVER THE INPUT: true; the input reads as it did. -/
def splitCheckSpec : ChangeSpec := { name := "splitCheck", fn := fun _ => fun
  | [d1, d2] => { results := [.lit (.bool true)], args := [d1, d2] }
  | _ => none }
def splitCheckRow : OpenClaim := { program := "ytddlafcnfdohnaa", sum := "619adeb07e275c989d08bd304041bfd4357c1f847309a3c64714e0a81be18f2d", func := "namedesk/namedesklaw12.SplitCheck", spec := "splitCheck", inPlace := ["internal/abi.NoEscape", "internal/bytealg.MakeNoZero"], apart := false }
def SplitCheckSaid : Prop := splitCheckRow.holds Try.pinned (OpenSpec.ofChange splitCheckSpec)

/-- ITS FALSE NEIGHBOUR: 'it returns false'. Refute it at one input. -/
def splitCheckWrong : ChangeSpec := { name := "splitCheck", fn := fun _ => fun
  | [d1, d2] => { results := [.lit (.bool false)], args := [d1, d2] }
  | _ => none }
def SplitCheckWrongFalsely : Prop := splitCheckRow.holds Try.pinned (OpenSpec.ofChange splitCheckWrong)

/- THE SECOND FORM. 'bulk': how many values and letters a reading holds, each counted each time it is reached (what is shared counts as often as it is met; a slice's spare places count too). A statement '..UptoSaid' is the law's where the arguments, and the package variables that the reading takes, are together of bulk at most 1048576: NARROWER than '..Said'. Prove '..Said' where nothing that the law and all that it calls make is longer than what came in: it says more and counts as full. Else prove '..UptoSaid'. A law counts once. -/
mutual
def uptoBulk {H : Type} : DataW H → Nat
  | .lit (.string bytes) => bytes.length + 1
  | .lit _ => 1
  | .nil => 1
  | .ptr d => uptoBulk d + 1
  | .slice elems spare => uptoBulkAll elems + uptoBulkAll spare + 1
  | .agg parts => uptoBulkAll parts + 1
  | .iface _ d => uptoBulk d + 1
  | .map entries => uptoBulkEntries entries + 1
  | .held _ => 1
def uptoBulkAll {H : Type} : List (DataW H) → Nat
  | [] => 0
  | d :: r => uptoBulk d + uptoBulkAll r
def uptoBulkEntries {H : Type} : List (Lit × DataW H) → Nat
  | [] => 0
  | x :: r => uptoBulkEntry x + uptoBulkEntries r
def uptoBulkEntry {H : Type} : Lit × DataW H → Nat
  | (.string bytes, d) => bytes.length + uptoBulk d + 1
  | (_, d) => uptoBulk d + 1
 end
def uptoSmall : (H : Type) → List (DataW H) → Bool := fun _ ds => decide (uptoBulkAll ds ≤ 1048576)
def OpenSpec.upto (s : _root_.Go.ChangeSpec) : _root_.Go.OpenSpec := { _root_.Go.OpenSpec.ofChange s with cond := some uptoSmall }

/-- 'namedesklaw12.SplitLong', WHERE WHAT IT READS IS OF BULK AT MOST 1048576: true; the input reads as it did. -/
def splitLongUptoRow : OpenClaim := { program := "ytddlafcnfdohnaa", sum := "619adeb07e275c989d08bd304041bfd4357c1f847309a3c64714e0a81be18f2d", func := "namedesk/namedesklaw12.SplitLong", spec := "splitLong", apart := false, narrowed := true }
def SplitLongUptoSaid : Prop := splitLongUptoRow.holds Try.pinned (OpenSpec.upto splitLongSpec)

/-- 'namedesklaw12.SplitBack', WHERE WHAT IT READS IS OF BULK AT MOST 1048576: true; the input reads as it did. -/
def splitBackUptoRow : OpenClaim := { program := "ytddlafcnfdohnaa", sum := "619adeb07e275c989d08bd304041bfd4357c1f847309a3c64714e0a81be18f2d", func := "namedesk/namedesklaw12.SplitBack", spec := "splitBack", apart := false, narrowed := true }
def SplitBackUptoSaid : Prop := splitBackUptoRow.holds Try.pinned (OpenSpec.upto splitBackSpec)

/-- 'namedesklaw12.SplitKeeps', WHERE WHAT IT READS IS OF BULK AT MOST 1048576: true; the input reads as it did. -/
def splitKeepsUptoRow : OpenClaim := { program := "ytddlafcnfdohnaa", sum := "619adeb07e275c989d08bd304041bfd4357c1f847309a3c64714e0a81be18f2d", func := "namedesk/namedesklaw12.SplitKeeps", spec := "splitKeeps", apart := false, narrowed := true }
def SplitKeepsUptoSaid : Prop := splitKeepsUptoRow.holds Try.pinned (OpenSpec.upto splitKeepsSpec)

/-- 'namedesklaw12.SplitCheck', WHERE WHAT IT READS IS OF BULK AT MOST 1048576: true; the input reads as it did. -/
def splitCheckUptoRow : OpenClaim := { program := "ytddlafcnfdohnaa", sum := "619adeb07e275c989d08bd304041bfd4357c1f847309a3c64714e0a81be18f2d", func := "namedesk/namedesklaw12.SplitCheck", spec := "splitCheck", inPlace := ["internal/abi.NoEscape", "internal/bytealg.MakeNoZero"], apart := false, narrowed := true }
def SplitCheckUptoSaid : Prop := splitCheckUptoRow.holds Try.pinned (OpenSpec.upto splitCheckSpec)

end Rows
end Go.Proofs.Ytddlafcnfdohnaa
