/-
  No cell of these rows narrows 'for every input' (looked for: loops, veiled, ifaces, maps, wideKeys, modest, calm, conditions, laid).
  DERIVED. THE GIVEN ROWS OF THIS SEAT. 7 by the template 'for every input the law returns true; each argument reads behind the call as it read before'; 0 by the template 'total and deterministic' (their statements: YthdfhijahkfjdaaTotals.lean).
  GIVEN WITH THE SEED: the statements are not yours to turn. If you find one false, say at which input.
  Laid BY PROGRAM, IN A SANDBOX (cutbox-rows.mjs): the forced cells as the released guide's own fill.sh prints them over the translation fdd3f735df341d8f… (all of the seat's roots in one cut). By AI agents, Wed Nov 11 2026. No macro, syntax, notation, axiom, sorry.
-/
import Derived.Test.YthdfhijahkfjdaaChecked
import GoSem.Claim
import GoSem.ClaimJoined
import GoSem.ClaimMapViews
import Derived.JoinedTies
import Derived.KernelRfl
namespace Go.Proofs.Ythdfhijahkfjdaa
/- THE CELL 'sum', in the pinned program and in every row, IS THE sha256 OF THE DUMP (.gsa) THAT YthdfhijahkfjdaaProg.lean LOADS. Nothing in Lean hashes anything: it is a label: what it is worth is what the hold of that sum in a sandbox is worth. -/
noncomputable def Try.pinned : Pinned := { name := "ythdfhijahkfjdaa", sum := "fdd3f735df341d8fb565c45fb696563f04125557e3dd17364cbe35fc0ee27203", checked := Try.checked }
namespace Rows
def none {H : Type} : Left H := { results := [], args := [] }

/-- 'namedesklaw2.RangesFull': WHATEVER THE INPUT: true; the input reads as it did. -/
def rangesFullSpec : ChangeSpec := { name := "rangesFull", fn := fun _ => fun
  | [d1, d2, d3] => { results := [.lit (.bool true)], args := [d1, d2, d3] }
  | _ => none }
def rangesFullRow : OpenClaim := { program := "ythdfhijahkfjdaa", sum := "fdd3f735df341d8fb565c45fb696563f04125557e3dd17364cbe35fc0ee27203", func := "namedesk/namedesklaw2.RangesFull", spec := "rangesFull", unfollowed := true, recurses := true, apart := false }
def RangesFullSaid : Prop := rangesFullRow.holds Try.pinned (OpenSpec.ofChange rangesFullSpec)

/-- ITS FALSE NEIGHBOUR: 'it returns false'. Refute it at one input. -/
def rangesFullWrong : ChangeSpec := { name := "rangesFull", fn := fun _ => fun
  | [d1, d2, d3] => { results := [.lit (.bool false)], args := [d1, d2, d3] }
  | _ => none }
def RangesFullWrongFalsely : Prop := rangesFullRow.holds Try.pinned (OpenSpec.ofChange rangesFullWrong)

/-- 'namedesklaw2.RangesSet': WHATEVER THE INPUT: true; the input reads as it did. -/
def rangesSetSpec : ChangeSpec := { name := "rangesSet", fn := fun _ => fun
  | [d1, d2, d3, d4] => { results := [.lit (.bool true)], args := [d1, d2, d3, d4] }
  | _ => none }
def rangesSetRow : OpenClaim := { program := "ythdfhijahkfjdaa", sum := "fdd3f735df341d8fb565c45fb696563f04125557e3dd17364cbe35fc0ee27203", func := "namedesk/namedesklaw2.RangesSet", spec := "rangesSet", unfollowed := true, recurses := true, apart := false }
def RangesSetSaid : Prop := rangesSetRow.holds Try.pinned (OpenSpec.ofChange rangesSetSpec)

/-- ITS FALSE NEIGHBOUR: 'it returns false'. Refute it at one input. -/
def rangesSetWrong : ChangeSpec := { name := "rangesSet", fn := fun _ => fun
  | [d1, d2, d3, d4] => { results := [.lit (.bool false)], args := [d1, d2, d3, d4] }
  | _ => none }
def RangesSetWrongFalsely : Prop := rangesSetRow.holds Try.pinned (OpenSpec.ofChange rangesSetWrong)

/-- 'namedesklaw2.RangesOverlay': WHATEVER THE INPUT: true; the input reads as it did. -/
def rangesOverlaySpec : ChangeSpec := { name := "rangesOverlay", fn := fun _ => fun
  | [d1, d2] => { results := [.lit (.bool true)], args := [d1, d2] }
  | _ => none }
def rangesOverlayRow : OpenClaim := { program := "ythdfhijahkfjdaa", sum := "fdd3f735df341d8fb565c45fb696563f04125557e3dd17364cbe35fc0ee27203", func := "namedesk/namedesklaw2.RangesOverlay", spec := "rangesOverlay", unfollowed := true, recurses := true, apart := false }
def RangesOverlaySaid : Prop := rangesOverlayRow.holds Try.pinned (OpenSpec.ofChange rangesOverlaySpec)

/-- ITS FALSE NEIGHBOUR: 'it returns false'. Refute it at one input. -/
def rangesOverlayWrong : ChangeSpec := { name := "rangesOverlay", fn := fun _ => fun
  | [d1, d2] => { results := [.lit (.bool false)], args := [d1, d2] }
  | _ => none }
def RangesOverlayWrongFalsely : Prop := rangesOverlayRow.holds Try.pinned (OpenSpec.ofChange rangesOverlayWrong)

/-- 'namedesklaw2.RangesKeeps': WHATEVER THE INPUT: true; the input reads as it did. -/
def rangesKeepsSpec : ChangeSpec := { name := "rangesKeeps", fn := fun _ => fun
  | [d1, d2, d3, d4] => { results := [.lit (.bool true)], args := [d1, d2, d3, d4] }
  | _ => none }
def rangesKeepsRow : OpenClaim := { program := "ythdfhijahkfjdaa", sum := "fdd3f735df341d8fb565c45fb696563f04125557e3dd17364cbe35fc0ee27203", func := "namedesk/namedesklaw2.RangesKeeps", spec := "rangesKeeps", unfollowed := true, recurses := true, apart := false }
def RangesKeepsSaid : Prop := rangesKeepsRow.holds Try.pinned (OpenSpec.ofChange rangesKeepsSpec)

/-- ITS FALSE NEIGHBOUR: 'it returns false'. Refute it at one input. -/
def rangesKeepsWrong : ChangeSpec := { name := "rangesKeeps", fn := fun _ => fun
  | [d1, d2, d3, d4] => { results := [.lit (.bool false)], args := [d1, d2, d3, d4] }
  | _ => none }
def RangesKeepsWrongFalsely : Prop := rangesKeepsRow.holds Try.pinned (OpenSpec.ofChange rangesKeepsWrong)

/-- 'namedesklaw2.RangesNormal': WHATEVER THE INPUT: true; the input reads as it did. -/
def rangesNormalSpec : ChangeSpec := { name := "rangesNormal", fn := fun _ => fun
  | [d] => { results := [.lit (.bool true)], args := [d] }
  | _ => none }
def rangesNormalRow : OpenClaim := { program := "ythdfhijahkfjdaa", sum := "fdd3f735df341d8fb565c45fb696563f04125557e3dd17364cbe35fc0ee27203", func := "namedesk/namedesklaw2.RangesNormal", spec := "rangesNormal", unfollowed := true, recurses := true, apart := false }
def RangesNormalSaid : Prop := rangesNormalRow.holds Try.pinned (OpenSpec.ofChange rangesNormalSpec)

/-- ITS FALSE NEIGHBOUR: 'it returns false'. Refute it at one input. -/
def rangesNormalWrong : ChangeSpec := { name := "rangesNormal", fn := fun _ => fun
  | [d] => { results := [.lit (.bool false)], args := [d] }
  | _ => none }
def RangesNormalWrongFalsely : Prop := rangesNormalRow.holds Try.pinned (OpenSpec.ofChange rangesNormalWrong)

/-- 'namedesklaw2.RangesRaw': WHATEVER THE INPUT: true; the input reads as it did. -/
def rangesRawSpec : ChangeSpec := { name := "rangesRaw", fn := fun _ => fun
  | [d1, d2, d3, d4, d5, d6, d7, d8] => { results := [.lit (.bool true)], args := [d1, d2, d3, d4, d5, d6, d7, d8] }
  | _ => none }
def rangesRawRow : OpenClaim := { program := "ythdfhijahkfjdaa", sum := "fdd3f735df341d8fb565c45fb696563f04125557e3dd17364cbe35fc0ee27203", func := "namedesk/namedesklaw2.RangesRaw", spec := "rangesRaw", unfollowed := true, recurses := true, apart := false }
def RangesRawSaid : Prop := rangesRawRow.holds Try.pinned (OpenSpec.ofChange rangesRawSpec)

/-- ITS FALSE NEIGHBOUR: 'it returns false'. Refute it at one input. -/
def rangesRawWrong : ChangeSpec := { name := "rangesRaw", fn := fun _ => fun
  | [d1, d2, d3, d4, d5, d6, d7, d8] => { results := [.lit (.bool false)], args := [d1, d2, d3, d4, d5, d6, d7, d8] }
  | _ => none }
def RangesRawWrongFalsely : Prop := rangesRawRow.holds Try.pinned (OpenSpec.ofChange rangesRawWrong)

/-- 'namedesklaw2.RangesMade': WHATEVER THE INPUT: true; the input reads as it did. -/
def rangesMadeSpec : ChangeSpec := { name := "rangesMade", fn := fun _ => fun
  | [d1, d2, d3, d4, d5, d6, d7] => { results := [.lit (.bool true)], args := [d1, d2, d3, d4, d5, d6, d7] }
  | _ => none }
def rangesMadeRow : OpenClaim := { program := "ythdfhijahkfjdaa", sum := "fdd3f735df341d8fb565c45fb696563f04125557e3dd17364cbe35fc0ee27203", func := "namedesk/namedesklaw2.RangesMade", spec := "rangesMade", unfollowed := true, recurses := true, apart := false }
def RangesMadeSaid : Prop := rangesMadeRow.holds Try.pinned (OpenSpec.ofChange rangesMadeSpec)

/-- ITS FALSE NEIGHBOUR: 'it returns false'. Refute it at one input. -/
def rangesMadeWrong : ChangeSpec := { name := "rangesMade", fn := fun _ => fun
  | [d1, d2, d3, d4, d5, d6, d7] => { results := [.lit (.bool false)], args := [d1, d2, d3, d4, d5, d6, d7] }
  | _ => none }
def RangesMadeWrongFalsely : Prop := rangesMadeRow.holds Try.pinned (OpenSpec.ofChange rangesMadeWrong)

/- THE SECOND FORM. 'bulk': how many values and letters a reading holds, each counted each time it is reached (what is shared counts as often as it is met; a slice's spare places count too). A statement '..UptoSaid' is the law's where the arguments, and the package variables that the reading takes, are together of bulk at most 1048576: NARROWER than '..Said'. Prove '..Said' where nothing that the law and all that it calls make is longer than what came in: it says more and counts as full. Else prove '..UptoSaid'. A law counts once. -/
mutual
def uptoBulk {H : Type} : DataW H → Nat
  | .lit (.string bytes) => bytes.length + 1
  | .lit _ => 1
  | .nil => 1
  | .ptr d => uptoBulk d + 1
  | .slice elems spare => uptoBulkAll elems + uptoBulkAll spare + 1
  | .agg parts => uptoBulkAll parts + 1
  | .iface _ d => uptoBulk d + 1
  | .map entries => uptoBulkEntries entries + 1
  | .held _ => 1
def uptoBulkAll {H : Type} : List (DataW H) → Nat
  | [] => 0
  | d :: r => uptoBulk d + uptoBulkAll r
def uptoBulkEntries {H : Type} : List (Lit × DataW H) → Nat
  | [] => 0
  | x :: r => uptoBulkEntry x + uptoBulkEntries r
def uptoBulkEntry {H : Type} : Lit × DataW H → Nat
  | (.string bytes, d) => bytes.length + uptoBulk d + 1
  | (_, d) => uptoBulk d + 1
 end
def uptoSmall : (H : Type) → List (DataW H) → Bool := fun _ ds => decide (uptoBulkAll ds ≤ 1048576)
def OpenSpec.upto (s : _root_.Go.ChangeSpec) : _root_.Go.OpenSpec := { _root_.Go.OpenSpec.ofChange s with cond := some uptoSmall }

/-- 'namedesklaw2.RangesFull', WHERE WHAT IT READS IS OF BULK AT MOST 1048576: true; the input reads as it did. -/
def rangesFullUptoRow : OpenClaim := { program := "ythdfhijahkfjdaa", sum := "fdd3f735df341d8fb565c45fb696563f04125557e3dd17364cbe35fc0ee27203", func := "namedesk/namedesklaw2.RangesFull", spec := "rangesFull", unfollowed := true, recurses := true, apart := false, narrowed := true }
def RangesFullUptoSaid : Prop := rangesFullUptoRow.holds Try.pinned (OpenSpec.upto rangesFullSpec)

/-- 'namedesklaw2.RangesSet', WHERE WHAT IT READS IS OF BULK AT MOST 1048576: true; the input reads as it did. -/
def rangesSetUptoRow : OpenClaim := { program := "ythdfhijahkfjdaa", sum := "fdd3f735df341d8fb565c45fb696563f04125557e3dd17364cbe35fc0ee27203", func := "namedesk/namedesklaw2.RangesSet", spec := "rangesSet", unfollowed := true, recurses := true, apart := false, narrowed := true }
def RangesSetUptoSaid : Prop := rangesSetUptoRow.holds Try.pinned (OpenSpec.upto rangesSetSpec)

/-- 'namedesklaw2.RangesOverlay', WHERE WHAT IT READS IS OF BULK AT MOST 1048576: true; the input reads as it did. -/
def rangesOverlayUptoRow : OpenClaim := { program := "ythdfhijahkfjdaa", sum := "fdd3f735df341d8fb565c45fb696563f04125557e3dd17364cbe35fc0ee27203", func := "namedesk/namedesklaw2.RangesOverlay", spec := "rangesOverlay", unfollowed := true, recurses := true, apart := false, narrowed := true }
def RangesOverlayUptoSaid : Prop := rangesOverlayUptoRow.holds Try.pinned (OpenSpec.upto rangesOverlaySpec)

/-- 'namedesklaw2.RangesKeeps', WHERE WHAT IT READS IS OF BULK AT MOST 1048576: true; the input reads as it did. -/
def rangesKeepsUptoRow : OpenClaim := { program := "ythdfhijahkfjdaa", sum := "fdd3f735df341d8fb565c45fb696563f04125557e3dd17364cbe35fc0ee27203", func := "namedesk/namedesklaw2.RangesKeeps", spec := "rangesKeeps", unfollowed := true, recurses := true, apart := false, narrowed := true }
def RangesKeepsUptoSaid : Prop := rangesKeepsUptoRow.holds Try.pinned (OpenSpec.upto rangesKeepsSpec)

/-- 'namedesklaw2.RangesNormal', WHERE WHAT IT READS IS OF BULK AT MOST 1048576: true; the input reads as it did. -/
def rangesNormalUptoRow : OpenClaim := { program := "ythdfhijahkfjdaa", sum := "fdd3f735df341d8fb565c45fb696563f04125557e3dd17364cbe35fc0ee27203", func := "namedesk/namedesklaw2.RangesNormal", spec := "rangesNormal", unfollowed := true, recurses := true, apart := false, narrowed := true }
def RangesNormalUptoSaid : Prop := rangesNormalUptoRow.holds Try.pinned (OpenSpec.upto rangesNormalSpec)

/-- 'namedesklaw2.RangesRaw', WHERE WHAT IT READS IS OF BULK AT MOST 1048576: true; the input reads as it did. -/
def rangesRawUptoRow : OpenClaim := { program := "ythdfhijahkfjdaa", sum := "fdd3f735df341d8fb565c45fb696563f04125557e3dd17364cbe35fc0ee27203", func := "namedesk/namedesklaw2.RangesRaw", spec := "rangesRaw", unfollowed := true, recurses := true, apart := false, narrowed := true }
def RangesRawUptoSaid : Prop := rangesRawUptoRow.holds Try.pinned (OpenSpec.upto rangesRawSpec)

/-- 'namedesklaw2.RangesMade', WHERE WHAT IT READS IS OF BULK AT MOST 1048576: true; the input reads as it did. -/
def rangesMadeUptoRow : OpenClaim := { program := "ythdfhijahkfjdaa", sum := "fdd3f735df341d8fb565c45fb696563f04125557e3dd17364cbe35fc0ee27203", func := "namedesk/namedesklaw2.RangesMade", spec := "rangesMade", unfollowed := true, recurses := true, apart := false, narrowed := true }
def RangesMadeUptoSaid : Prop := rangesMadeUptoRow.holds Try.pinned (OpenSpec.upto rangesMadeSpec)

end Rows
end Go.Proofs.Ythdfhijahkfjdaa
