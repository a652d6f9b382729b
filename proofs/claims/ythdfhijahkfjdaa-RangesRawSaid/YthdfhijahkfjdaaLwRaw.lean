/- The walk of the law RangesRaw. -/
import Derived.Test.YthdfhijahkfjdaaAgrees
namespace Go.Proofs.Ythdfhijahkfjdaa
open Go Go.RowKit
set_option linter.unusedVariables false

set_option maxRecDepth 100000 in
set_option maxHeartbeats 8000000 in
theorem walk_RangesRaw (a0 : Option Addr) (c0 : Nat) (a : List Rg.Sn) (a1 : Option Addr) (c1 : Nat) (b : List Rg.Sn) (lo : Int) (hi : Int) (c : Int) (fr : Int) (tu : Int) (v : Int) (w : World) (r0 : Rd w w.heap.size 3 a0 a.length (spans a)) (m0 : a.length ≤ maxLen) (f0 : True) (q0 : a.length * 24 ≤ reachBytes ∧ a.length ≤ c0) (r1 : Rd w w.heap.size 3 a1 b.length (spans b)) (m1 : b.length ≤ maxLen) (f1 : True) (q1 : b.length * 24 ≤ reachBytes ∧ b.length ≤ c1) (w2 : (Lit.int .i64 lo).wf = true) (w3 : (Lit.int .i64 hi).wf = true) (w4 : (Lit.int .i64 c).wf = true) (w5 : (Lit.int .i64 fr).wf = true) (w6 : (Lit.int .i64 tu).wf = true) (w7 : (Lit.int .i64 v).wf = true) :
    Calls Try.prog 8 #[.slice a0 a.length c0, .slice a1 b.length c1, .int .i64 lo, .int .i64 hi, .int .i64 c, .int .i64 fr, .int .i64 tu, .int .i64 v] w fun e w' => e = .returned (.bool true) ∧ Below w.heap.size w w' := by
  have hl : a.length ≤ 1000000000000000 := by have := q0.1; unfold reachBytes at this; omega
  have hl' : b.length ≤ 1000000000000000 := by have := q1.1; unfold reachBytes at this; omega
  have HA := Lib.hid r0; have HC := Lib.hid r1; clear r0 r1 m0 m1 q0 q1 f0 f1 w2 w3 w4 w5 w6 w7
  have HB := Lib.hid (Below.refl w.heap.size w)
  go_enter Try.func8, Try.ntmps8
  go_wp2_with fail
  refine (awake2_any _).mono ?_
  rintro e w1 ⟨rfl, hb⟩
  have hsz1 := hb.size
  replace HA := Lib.hid (HA.out.below (hb.mono (by omega)))
  replace HC := Lib.hid (HC.out.below (hb.mono (by omega)))
  replace HB := Lib.hid (below_step HB.out hb)
  clear hb
  go_wp2_with fail
  refine (agrees_any a0 c0 a a1 c1 b lo hi c fr tu v w.heap.size _ HA.out HC.out (by omega) hl hl').mono ?_
  rintro e w2 ⟨rfl, hb⟩
  have hsz2 := hb.size
  replace HA := Lib.hid (HA.out.below (hb.mono (by omega)))
  replace HC := Lib.hid (HC.out.below (hb.mono (by omega)))
  replace HB := Lib.hid (below_step HB.out hb)
  clear hb
  go_wp2
  go_ret
  exact ⟨rfl, HB.out⟩
end Go.Proofs.Ythdfhijahkfjdaa
