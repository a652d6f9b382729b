/-
  No cell of these rows narrows 'for every input' (looked for: loops, veiled, ifaces, maps, wideKeys, modest, calm, conditions, laid).
  DERIVED. THE GIVEN ROWS OF THIS SEAT. 13 by the template 'for every input the law returns true; each argument reads behind the call as it read before'; 0 by the template 'total and deterministic' (their statements: YtoihjbiahccaaaaTotals.lean).
  GIVEN WITH THE SEED: the statements are not yours to turn. If you find one false, say at which input.
  Laid BY PROGRAM, IN A SANDBOX (cutbox-rows.mjs): the forced cells as the released guide's own fill.sh prints them over the translation ac40b204a4bacb56… (all of the seat's roots in one cut). By AI agents, Wed Nov 11 2026. No macro, syntax, notation, axiom, sorry.
-/
import Derived.Test.YtoihjbiahccaaaaChecked
import GoSem.Claim
import GoSem.ClaimJoined
import GoSem.ClaimMapViews
import Derived.JoinedTies
import Derived.KernelRfl
namespace Go.Proofs.Ytoihjbiahccaaaa
/- THE CELL 'sum', in the pinned program and in every row, IS THE sha256 OF THE DUMP (.gsa) THAT YtoihjbiahccaaaaProg.lean LOADS. Nothing in Lean hashes anything: it is a label: what it is worth is what the hold of that sum in a sandbox is worth. -/
noncomputable def Try.pinned : Pinned := { name := "ytoihjbiahccaaaa", sum := "ac40b204a4bacb56433db4781a928bb7b96bd746d3d342b1f4313b89dd1763cf", checked := Try.checked }
namespace Rows
def none {H : Type} : Left H := { results := [], args := [] }

/-- 'namedesklaw10.PunyEncode': WHATEVER THE INPUT: true; the input reads as it did. -/
def punyEncodeSpec : ChangeSpec := { name := "punyEncode", fn := fun _ => fun
  | [d1, d2] => { results := [.lit (.bool true)], args := [d1, d2] }
  | _ => none }
def punyEncodeRow : OpenClaim := { program := "ytoihjbiahccaaaa", sum := "ac40b204a4bacb56433db4781a928bb7b96bd746d3d342b1f4313b89dd1763cf", func := "namedesk/namedesklaw10.PunyEncode", spec := "punyEncode", inPlace := ["slices.overlaps[int]"], apart := false }
def PunyEncodeSaid : Prop := punyEncodeRow.holds Try.pinned (OpenSpec.ofChange punyEncodeSpec)

/-- ITS FALSE NEIGHBOUR: 'it returns false'. Refute it at one input. -/
def punyEncodeWrong : ChangeSpec := { name := "punyEncode", fn := fun _ => fun
  | [d1, d2] => { results := [.lit (.bool false)], args := [d1, d2] }
  | _ => none }
def PunyEncodeWrongFalsely : Prop := punyEncodeRow.holds Try.pinned (OpenSpec.ofChange punyEncodeWrong)

/-- 'namedesklaw10.PunyDamaged': WHATEVER THE INPUT: true; the input reads as it did. -/
def punyDamagedSpec : ChangeSpec := { name := "punyDamaged", fn := fun _ => fun
  | [d1, d2, d3] => { results := [.lit (.bool true)], args := [d1, d2, d3] }
  | _ => none }
def punyDamagedRow : OpenClaim := { program := "ytoihjbiahccaaaa", sum := "ac40b204a4bacb56433db4781a928bb7b96bd746d3d342b1f4313b89dd1763cf", func := "namedesk/namedesklaw10.PunyDamaged", spec := "punyDamaged", inPlace := ["slices.overlaps[int]"], apart := false }
def PunyDamagedSaid : Prop := punyDamagedRow.holds Try.pinned (OpenSpec.ofChange punyDamagedSpec)

/-- ITS FALSE NEIGHBOUR: 'it returns false'. Refute it at one input. -/
def punyDamagedWrong : ChangeSpec := { name := "punyDamaged", fn := fun _ => fun
  | [d1, d2, d3] => { results := [.lit (.bool false)], args := [d1, d2, d3] }
  | _ => none }
def PunyDamagedWrongFalsely : Prop := punyDamagedRow.holds Try.pinned (OpenSpec.ofChange punyDamagedWrong)

/-- 'namedesklaw10.PunyAdapt': WHATEVER THE INPUT: true; the input reads as it did. -/
def punyAdaptSpec : ChangeSpec := { name := "punyAdapt", fn := fun _ => fun
  | [d1, d2, d3, d4] => { results := [.lit (.bool true)], args := [d1, d2, d3, d4] }
  | _ => none }
def punyAdaptRow : OpenClaim := { program := "ytoihjbiahccaaaa", sum := "ac40b204a4bacb56433db4781a928bb7b96bd746d3d342b1f4313b89dd1763cf", func := "namedesk/namedesklaw10.PunyAdapt", spec := "punyAdapt", inPlace := ["slices.overlaps[int]"], apart := false }
def PunyAdaptSaid : Prop := punyAdaptRow.holds Try.pinned (OpenSpec.ofChange punyAdaptSpec)

/-- ITS FALSE NEIGHBOUR: 'it returns false'. Refute it at one input. -/
def punyAdaptWrong : ChangeSpec := { name := "punyAdapt", fn := fun _ => fun
  | [d1, d2, d3, d4] => { results := [.lit (.bool false)], args := [d1, d2, d3, d4] }
  | _ => none }
def PunyAdaptWrongFalsely : Prop := punyAdaptRow.holds Try.pinned (OpenSpec.ofChange punyAdaptWrong)

/-- 'namedesklaw10.PunyBack': WHATEVER THE INPUT: true; the input reads as it did. -/
def punyBackSpec : ChangeSpec := { name := "punyBack", fn := fun _ => fun
  | [d] => { results := [.lit (.bool true)], args := [d] }
  | _ => none }
def punyBackRow : OpenClaim := { program := "ytoihjbiahccaaaa", sum := "ac40b204a4bacb56433db4781a928bb7b96bd746d3d342b1f4313b89dd1763cf", func := "namedesk/namedesklaw10.PunyBack", spec := "punyBack", inPlace := ["slices.overlaps[int]"], apart := false }
def PunyBackSaid : Prop := punyBackRow.holds Try.pinned (OpenSpec.ofChange punyBackSpec)

/-- ITS FALSE NEIGHBOUR: 'it returns false'. Refute it at one input. -/
def punyBackWrong : ChangeSpec := { name := "punyBack", fn := fun _ => fun
  | [d] => { results := [.lit (.bool false)], args := [d] }
  | _ => none }
def PunyBackWrongFalsely : Prop := punyBackRow.holds Try.pinned (OpenSpec.ofChange punyBackWrong)

/-- 'namedesklaw10.PunyUnique': WHATEVER THE INPUT: true; the input reads as it did. -/
def punyUniqueSpec : ChangeSpec := { name := "punyUnique", fn := fun _ => fun
  | [d] => { results := [.lit (.bool true)], args := [d] }
  | _ => none }
def punyUniqueRow : OpenClaim := { program := "ytoihjbiahccaaaa", sum := "ac40b204a4bacb56433db4781a928bb7b96bd746d3d342b1f4313b89dd1763cf", func := "namedesk/namedesklaw10.PunyUnique", spec := "punyUnique", inPlace := ["slices.overlaps[int]"], apart := false }
def PunyUniqueSaid : Prop := punyUniqueRow.holds Try.pinned (OpenSpec.ofChange punyUniqueSpec)

/-- ITS FALSE NEIGHBOUR: 'it returns false'. Refute it at one input. -/
def punyUniqueWrong : ChangeSpec := { name := "punyUnique", fn := fun _ => fun
  | [d] => { results := [.lit (.bool false)], args := [d] }
  | _ => none }
def PunyUniqueWrongFalsely : Prop := punyUniqueRow.holds Try.pinned (OpenSpec.ofChange punyUniqueWrong)

/-- 'namedesklaw10.PunyASCII': WHATEVER THE INPUT: true; the input reads as it did. -/
def punyASCIISpec : ChangeSpec := { name := "punyASCII", fn := fun _ => fun
  | [d] => { results := [.lit (.bool true)], args := [d] }
  | _ => none }
def punyASCIIRow : OpenClaim := { program := "ytoihjbiahccaaaa", sum := "ac40b204a4bacb56433db4781a928bb7b96bd746d3d342b1f4313b89dd1763cf", func := "namedesk/namedesklaw10.PunyASCII", spec := "punyASCII", inPlace := ["slices.overlaps[int]"], apart := false }
def PunyASCIISaid : Prop := punyASCIIRow.holds Try.pinned (OpenSpec.ofChange punyASCIISpec)

/-- ITS FALSE NEIGHBOUR: 'it returns false'. Refute it at one input. -/
def punyASCIIWrong : ChangeSpec := { name := "punyASCII", fn := fun _ => fun
  | [d] => { results := [.lit (.bool false)], args := [d] }
  | _ => none }
def PunyASCIIWrongFalsely : Prop := punyASCIIRow.holds Try.pinned (OpenSpec.ofChange punyASCIIWrong)

/-- 'namedesklaw10.PunyCase': WHATEVER THE INPUT: true; the input reads as it did. -/
def punyCaseSpec : ChangeSpec := { name := "punyCase", fn := fun _ => fun
  | [d1, d2] => { results := [.lit (.bool true)], args := [d1, d2] }
  | _ => none }
def punyCaseRow : OpenClaim := { program := "ytoihjbiahccaaaa", sum := "ac40b204a4bacb56433db4781a928bb7b96bd746d3d342b1f4313b89dd1763cf", func := "namedesk/namedesklaw10.PunyCase", spec := "punyCase", inPlace := ["slices.overlaps[int]"], apart := false }
def PunyCaseSaid : Prop := punyCaseRow.holds Try.pinned (OpenSpec.ofChange punyCaseSpec)

/-- ITS FALSE NEIGHBOUR: 'it returns false'. Refute it at one input. -/
def punyCaseWrong : ChangeSpec := { name := "punyCase", fn := fun _ => fun
  | [d1, d2] => { results := [.lit (.bool false)], args := [d1, d2] }
  | _ => none }
def PunyCaseWrongFalsely : Prop := punyCaseRow.holds Try.pinned (OpenSpec.ofChange punyCaseWrong)

/-- 'namedesklaw10.PunyLimits': WHATEVER THE INPUT: true; the input reads as it did. -/
def punyLimitsSpec : ChangeSpec := { name := "punyLimits", fn := fun _ => fun
  | [d] => { results := [.lit (.bool true)], args := [d] }
  | _ => none }
def punyLimitsRow : OpenClaim := { program := "ytoihjbiahccaaaa", sum := "ac40b204a4bacb56433db4781a928bb7b96bd746d3d342b1f4313b89dd1763cf", func := "namedesk/namedesklaw10.PunyLimits", spec := "punyLimits", inPlace := ["slices.overlaps[int]"], apart := false }
def PunyLimitsSaid : Prop := punyLimitsRow.holds Try.pinned (OpenSpec.ofChange punyLimitsSpec)

/-- ITS FALSE NEIGHBOUR: 'it returns false'. Refute it at one input. -/
def punyLimitsWrong : ChangeSpec := { name := "punyLimits", fn := fun _ => fun
  | [d] => { results := [.lit (.bool false)], args := [d] }
  | _ => none }
def PunyLimitsWrongFalsely : Prop := punyLimitsRow.holds Try.pinned (OpenSpec.ofChange punyLimitsWrong)

/-- 'namedesklaw11.AlabelEncode': WHATEVER THE INPUT: true; the input reads as it did. -/
def alabelEncodeSpec : ChangeSpec := { name := "alabelEncode", fn := fun _ => fun
  | [d1, d2, d3] => { results := [.lit (.bool true)], args := [d1, d2, d3] }
  | _ => none }
def alabelEncodeRow : OpenClaim := { program := "ytoihjbiahccaaaa", sum := "ac40b204a4bacb56433db4781a928bb7b96bd746d3d342b1f4313b89dd1763cf", func := "namedesk/namedesklaw11.AlabelEncode", spec := "alabelEncode", inPlace := ["slices.overlaps[int]"], apart := false }
def AlabelEncodeSaid : Prop := alabelEncodeRow.holds Try.pinned (OpenSpec.ofChange alabelEncodeSpec)

/-- ITS FALSE NEIGHBOUR: 'it returns false'. Refute it at one input. -/
def alabelEncodeWrong : ChangeSpec := { name := "alabelEncode", fn := fun _ => fun
  | [d1, d2, d3] => { results := [.lit (.bool false)], args := [d1, d2, d3] }
  | _ => none }
def AlabelEncodeWrongFalsely : Prop := alabelEncodeRow.holds Try.pinned (OpenSpec.ofChange alabelEncodeWrong)

/-- 'namedesklaw11.AlabelBack': WHATEVER THE INPUT: true; the input reads as it did. -/
def alabelBackSpec : ChangeSpec := { name := "alabelBack", fn := fun _ => fun
  | [d] => { results := [.lit (.bool true)], args := [d] }
  | _ => none }
def alabelBackRow : OpenClaim := { program := "ytoihjbiahccaaaa", sum := "ac40b204a4bacb56433db4781a928bb7b96bd746d3d342b1f4313b89dd1763cf", func := "namedesk/namedesklaw11.AlabelBack", spec := "alabelBack", inPlace := ["slices.overlaps[int]"], apart := false }
def AlabelBackSaid : Prop := alabelBackRow.holds Try.pinned (OpenSpec.ofChange alabelBackSpec)

/-- ITS FALSE NEIGHBOUR: 'it returns false'. Refute it at one input. -/
def alabelBackWrong : ChangeSpec := { name := "alabelBack", fn := fun _ => fun
  | [d] => { results := [.lit (.bool false)], args := [d] }
  | _ => none }
def AlabelBackWrongFalsely : Prop := alabelBackRow.holds Try.pinned (OpenSpec.ofChange alabelBackWrong)

/-- 'namedesklaw11.AlabelUnique': WHATEVER THE INPUT: true; the input reads as it did. -/
def alabelUniqueSpec : ChangeSpec := { name := "alabelUnique", fn := fun _ => fun
  | [d1, d2] => { results := [.lit (.bool true)], args := [d1, d2] }
  | _ => none }
def alabelUniqueRow : OpenClaim := { program := "ytoihjbiahccaaaa", sum := "ac40b204a4bacb56433db4781a928bb7b96bd746d3d342b1f4313b89dd1763cf", func := "namedesk/namedesklaw11.AlabelUnique", spec := "alabelUnique", inPlace := ["slices.overlaps[int]"], apart := false }
def AlabelUniqueSaid : Prop := alabelUniqueRow.holds Try.pinned (OpenSpec.ofChange alabelUniqueSpec)

/-- ITS FALSE NEIGHBOUR: 'it returns false'. Refute it at one input. -/
def alabelUniqueWrong : ChangeSpec := { name := "alabelUnique", fn := fun _ => fun
  | [d1, d2] => { results := [.lit (.bool false)], args := [d1, d2] }
  | _ => none }
def AlabelUniqueWrongFalsely : Prop := alabelUniqueRow.holds Try.pinned (OpenSpec.ofChange alabelUniqueWrong)

/-- 'namedesklaw11.AlabelLimits': WHATEVER THE INPUT: true; the input reads as it did. -/
def alabelLimitsSpec : ChangeSpec := { name := "alabelLimits", fn := fun _ => fun
  | [d1, d2] => { results := [.lit (.bool true)], args := [d1, d2] }
  | _ => none }
def alabelLimitsRow : OpenClaim := { program := "ytoihjbiahccaaaa", sum := "ac40b204a4bacb56433db4781a928bb7b96bd746d3d342b1f4313b89dd1763cf", func := "namedesk/namedesklaw11.AlabelLimits", spec := "alabelLimits", inPlace := ["slices.overlaps[int]"], apart := false }
def AlabelLimitsSaid : Prop := alabelLimitsRow.holds Try.pinned (OpenSpec.ofChange alabelLimitsSpec)

/-- ITS FALSE NEIGHBOUR: 'it returns false'. Refute it at one input. -/
def alabelLimitsWrong : ChangeSpec := { name := "alabelLimits", fn := fun _ => fun
  | [d1, d2] => { results := [.lit (.bool false)], args := [d1, d2] }
  | _ => none }
def AlabelLimitsWrongFalsely : Prop := alabelLimitsRow.holds Try.pinned (OpenSpec.ofChange alabelLimitsWrong)

/-- 'namedesklaw11.AlabelLower': WHATEVER THE INPUT: true; the input reads as it did. -/
def alabelLowerSpec : ChangeSpec := { name := "alabelLower", fn := fun _ => fun
  | [d] => { results := [.lit (.bool true)], args := [d] }
  | _ => none }
def alabelLowerRow : OpenClaim := { program := "ytoihjbiahccaaaa", sum := "ac40b204a4bacb56433db4781a928bb7b96bd746d3d342b1f4313b89dd1763cf", func := "namedesk/namedesklaw11.AlabelLower", spec := "alabelLower", inPlace := ["slices.overlaps[int]"], apart := false }
def AlabelLowerSaid : Prop := alabelLowerRow.holds Try.pinned (OpenSpec.ofChange alabelLowerSpec)

/-- ITS FALSE NEIGHBOUR: 'it returns false'. Refute it at one input. -/
def alabelLowerWrong : ChangeSpec := { name := "alabelLower", fn := fun _ => fun
  | [d] => { results := [.lit (.bool false)], args := [d] }
  | _ => none }
def AlabelLowerWrongFalsely : Prop := alabelLowerRow.holds Try.pinned (OpenSpec.ofChange alabelLowerWrong)

/- THE SECOND FORM. 'bulk': how many values and letters a reading holds, each counted each time it is reached (what is shared counts as often as it is met; a slice's spare places count too). A statement '..UptoSaid' is the law's where the arguments, and the package variables that the reading takes, are together of bulk at most 1048576: NARROWER than '..Said'. Prove '..Said' where nothing that the law and all that it calls make is longer than what came in: it says more and counts as full. Else prove '..UptoSaid'. A law counts once. -/
mutual
def uptoBulk {H : Type} : DataW H → Nat
  | .lit (.string bytes) => bytes.length + 1
  | .lit _ => 1
  | .nil => 1
  | .ptr d => uptoBulk d + 1
  | .slice elems spare => uptoBulkAll elems + uptoBulkAll spare + 1
  | .agg parts => uptoBulkAll parts + 1
  | .iface _ d => uptoBulk d + 1
  | .map entries => uptoBulkEntries entries + 1
  | .held _ => 1
def uptoBulkAll {H : Type} : List (DataW H) → Nat
  | [] => 0
  | d :: r => uptoBulk d + uptoBulkAll r
def uptoBulkEntries {H : Type} : List (Lit × DataW H) → Nat
  | [] => 0
  | x :: r => uptoBulkEntry x + uptoBulkEntries r
def uptoBulkEntry {H : Type} : Lit × DataW H → Nat
  | (.string bytes, d) => bytes.length + uptoBulk d + 1
  | (_, d) => uptoBulk d + 1
 end
def uptoSmall : (H : Type) → List (DataW H) → Bool := fun _ ds => decide (uptoBulkAll ds ≤ 1048576)
def OpenSpec.upto (s : _root_.Go.ChangeSpec) : _root_.Go.OpenSpec := { _root_.Go.OpenSpec.ofChange s with cond := some uptoSmall }

/-- 'namedesklaw10.PunyEncode', WHERE WHAT IT READS IS OF BULK AT MOST 1048576: true; the input reads as it did. -/
def punyEncodeUptoRow : OpenClaim := { program := "ytoihjbiahccaaaa", sum := "ac40b204a4bacb56433db4781a928bb7b96bd746d3d342b1f4313b89dd1763cf", func := "namedesk/namedesklaw10.PunyEncode", spec := "punyEncode", inPlace := ["slices.overlaps[int]"], apart := false, narrowed := true }
def PunyEncodeUptoSaid : Prop := punyEncodeUptoRow.holds Try.pinned (OpenSpec.upto punyEncodeSpec)

/-- 'namedesklaw10.PunyDamaged', WHERE WHAT IT READS IS OF BULK AT MOST 1048576: true; the input reads as it did. -/
def punyDamagedUptoRow : OpenClaim := { program := "ytoihjbiahccaaaa", sum := "ac40b204a4bacb56433db4781a928bb7b96bd746d3d342b1f4313b89dd1763cf", func := "namedesk/namedesklaw10.PunyDamaged", spec := "punyDamaged", inPlace := ["slices.overlaps[int]"], apart := false, narrowed := true }
def PunyDamagedUptoSaid : Prop := punyDamagedUptoRow.holds Try.pinned (OpenSpec.upto punyDamagedSpec)

/-- 'namedesklaw10.PunyAdapt', WHERE WHAT IT READS IS OF BULK AT MOST 1048576: true; the input reads as it did. -/
def punyAdaptUptoRow : OpenClaim := { program := "ytoihjbiahccaaaa", sum := "ac40b204a4bacb56433db4781a928bb7b96bd746d3d342b1f4313b89dd1763cf", func := "namedesk/namedesklaw10.PunyAdapt", spec := "punyAdapt", inPlace := ["slices.overlaps[int]"], apart := false, narrowed := true }
def PunyAdaptUptoSaid : Prop := punyAdaptUptoRow.holds Try.pinned (OpenSpec.upto punyAdaptSpec)

/-- 'namedesklaw10.PunyBack', WHERE WHAT IT READS IS OF BULK AT MOST 1048576: true; the input reads as it did. -/
def punyBackUptoRow : OpenClaim := { program := "ytoihjbiahccaaaa", sum := "ac40b204a4bacb56433db4781a928bb7b96bd746d3d342b1f4313b89dd1763cf", func := "namedesk/namedesklaw10.PunyBack", spec := "punyBack", inPlace := ["slices.overlaps[int]"], apart := false, narrowed := true }
def PunyBackUptoSaid : Prop := punyBackUptoRow.holds Try.pinned (OpenSpec.upto punyBackSpec)

/-- 'namedesklaw10.PunyUnique', WHERE WHAT IT READS IS OF BULK AT MOST 1048576: true; the input reads as it did. -/
def punyUniqueUptoRow : OpenClaim := { program := "ytoihjbiahccaaaa", sum := "ac40b204a4bacb56433db4781a928bb7b96bd746d3d342b1f4313b89dd1763cf", func := "namedesk/namedesklaw10.PunyUnique", spec := "punyUnique", inPlace := ["slices.overlaps[int]"], apart := false, narrowed := true }
def PunyUniqueUptoSaid : Prop := punyUniqueUptoRow.holds Try.pinned (OpenSpec.upto punyUniqueSpec)

/-- 'namedesklaw10.PunyASCII', WHERE WHAT IT READS IS OF BULK AT MOST 1048576: true; the input reads as it did. -/
def punyASCIIUptoRow : OpenClaim := { program := "ytoihjbiahccaaaa", sum := "ac40b204a4bacb56433db4781a928bb7b96bd746d3d342b1f4313b89dd1763cf", func := "namedesk/namedesklaw10.PunyASCII", spec := "punyASCII", inPlace := ["slices.overlaps[int]"], apart := false, narrowed := true }
def PunyASCIIUptoSaid : Prop := punyASCIIUptoRow.holds Try.pinned (OpenSpec.upto punyASCIISpec)

/-- 'namedesklaw10.PunyCase', WHERE WHAT IT READS IS OF BULK AT MOST 1048576: true; the input reads as it did. -/
def punyCaseUptoRow : OpenClaim := { program := "ytoihjbiahccaaaa", sum := "ac40b204a4bacb56433db4781a928bb7b96bd746d3d342b1f4313b89dd1763cf", func := "namedesk/namedesklaw10.PunyCase", spec := "punyCase", inPlace := ["slices.overlaps[int]"], apart := false, narrowed := true }
def PunyCaseUptoSaid : Prop := punyCaseUptoRow.holds Try.pinned (OpenSpec.upto punyCaseSpec)

/-- 'namedesklaw10.PunyLimits', WHERE WHAT IT READS IS OF BULK AT MOST 1048576: true; the input reads as it did. -/
def punyLimitsUptoRow : OpenClaim := { program := "ytoihjbiahccaaaa", sum := "ac40b204a4bacb56433db4781a928bb7b96bd746d3d342b1f4313b89dd1763cf", func := "namedesk/namedesklaw10.PunyLimits", spec := "punyLimits", inPlace := ["slices.overlaps[int]"], apart := false, narrowed := true }
def PunyLimitsUptoSaid : Prop := punyLimitsUptoRow.holds Try.pinned (OpenSpec.upto punyLimitsSpec)

/-- 'namedesklaw11.AlabelEncode', WHERE WHAT IT READS IS OF BULK AT MOST 1048576: true; the input reads as it did. -/
def alabelEncodeUptoRow : OpenClaim := { program := "ytoihjbiahccaaaa", sum := "ac40b204a4bacb56433db4781a928bb7b96bd746d3d342b1f4313b89dd1763cf", func := "namedesk/namedesklaw11.AlabelEncode", spec := "alabelEncode", inPlace := ["slices.overlaps[int]"], apart := false, narrowed := true }
def AlabelEncodeUptoSaid : Prop := alabelEncodeUptoRow.holds Try.pinned (OpenSpec.upto alabelEncodeSpec)

/-- 'namedesklaw11.AlabelBack', WHERE WHAT IT READS IS OF BULK AT MOST 1048576: true; the input reads as it did. -/
def alabelBackUptoRow : OpenClaim := { program := "ytoihjbiahccaaaa", sum := "ac40b204a4bacb56433db4781a928bb7b96bd746d3d342b1f4313b89dd1763cf", func := "namedesk/namedesklaw11.AlabelBack", spec := "alabelBack", inPlace := ["slices.overlaps[int]"], apart := false, narrowed := true }
def AlabelBackUptoSaid : Prop := alabelBackUptoRow.holds Try.pinned (OpenSpec.upto alabelBackSpec)

/-- 'namedesklaw11.AlabelUnique', WHERE WHAT IT READS IS OF BULK AT MOST 1048576: true; the input reads as it did. -/
def alabelUniqueUptoRow : OpenClaim := { program := "ytoihjbiahccaaaa", sum := "ac40b204a4bacb56433db4781a928bb7b96bd746d3d342b1f4313b89dd1763cf", func := "namedesk/namedesklaw11.AlabelUnique", spec := "alabelUnique", inPlace := ["slices.overlaps[int]"], apart := false, narrowed := true }
def AlabelUniqueUptoSaid : Prop := alabelUniqueUptoRow.holds Try.pinned (OpenSpec.upto alabelUniqueSpec)

/-- 'namedesklaw11.AlabelLimits', WHERE WHAT IT READS IS OF BULK AT MOST 1048576: true; the input reads as it did. -/
def alabelLimitsUptoRow : OpenClaim := { program := "ytoihjbiahccaaaa", sum := "ac40b204a4bacb56433db4781a928bb7b96bd746d3d342b1f4313b89dd1763cf", func := "namedesk/namedesklaw11.AlabelLimits", spec := "alabelLimits", inPlace := ["slices.overlaps[int]"], apart := false, narrowed := true }
def AlabelLimitsUptoSaid : Prop := alabelLimitsUptoRow.holds Try.pinned (OpenSpec.upto alabelLimitsSpec)

/-- 'namedesklaw11.AlabelLower', WHERE WHAT IT READS IS OF BULK AT MOST 1048576: true; the input reads as it did. -/
def alabelLowerUptoRow : OpenClaim := { program := "ytoihjbiahccaaaa", sum := "ac40b204a4bacb56433db4781a928bb7b96bd746d3d342b1f4313b89dd1763cf", func := "namedesk/namedesklaw11.AlabelLower", spec := "alabelLower", inPlace := ["slices.overlaps[int]"], apart := false, narrowed := true }
def AlabelLowerUptoSaid : Prop := alabelLowerUptoRow.holds Try.pinned (OpenSpec.upto alabelLowerSpec)

end Rows
end Go.Proofs.Ytoihjbiahccaaaa
