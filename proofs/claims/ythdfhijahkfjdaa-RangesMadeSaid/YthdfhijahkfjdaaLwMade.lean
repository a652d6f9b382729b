/- The walk of the law RangesMade. -/
import Derived.Test.YthdfhijahkfjdaaMk
import Derived.Test.YthdfhijahkfjdaaAgrees
import Derived.IntWalk
namespace Go.Proofs.Ythdfhijahkfjdaa
open Go Go.RowKit
set_option linter.unusedVariables false

set_option maxRecDepth 100000 in
set_option maxHeartbeats 8000000 in
theorem walk_RangesMade (a0 : Option Addr) (c0 : Nat) (l : List Int) (a1 : Option Addr) (c1 : Nat) (m : List Int) (lo : Int) (c : Int) (fr : Int) (tu : Int) (v : Int) (w : World) (r0 : Rd w w.heap.size 1 a0 l.length (intsK .i64 l)) (m0 : l.length ≤ maxLen) (f0 : ∀ n ∈ l, (Lit.int .i64 n).wf = true) (r1 : Rd w w.heap.size 1 a1 m.length (intsK .i64 m)) (m1 : m.length ≤ maxLen) (f1 : ∀ n ∈ m, (Lit.int .i64 n).wf = true) (w2 : (Lit.int .i64 lo).wf = true) (w3 : (Lit.int .i64 c).wf = true) (w4 : (Lit.int .i64 fr).wf = true) (w5 : (Lit.int .i64 tu).wf = true) (w6 : (Lit.int .i64 v).wf = true) :
    Calls Try.prog 9 #[.slice a0 l.length c0, .slice a1 m.length c1, .int .i64 lo, .int .i64 c, .int .i64 fr, .int .i64 tu, .int .i64 v] w fun e w' => e = .returned (.bool true) ∧ Below w.heap.size w w' := by
  have HB := Lib.hid (Below.refl w.heap.size w)
  have HIl := Lib.hid (show Rd w w.heap.size 1 a0 l.length (ints l) from r0)
  have HMl := Lib.hid m0
  clear r0 m0 f0
  have HIm := Lib.hid (show Rd w w.heap.size 1 a1 m.length (ints m) from r1)
  have HMm := Lib.hid m1
  clear r1 m1 f1
  clear w2 w3 w4 w5 w6
  go_enter Try.func9, Try.ntmps9
  go_wp2_with fail
  refine (mk_any a0 c0 l _ ((HIl.out).more (by omega)) HMl.out).mono ?_
  intro e w1 hret
  obtain ⟨AA, cA, rfl, hr, hb⟩ := hret.get
  clear hret
  have hsz1 := hb.size
  replace HIl := Lib.hid (HIl.out.below (hb.mono (by omega)))
  replace HIm := Lib.hid (HIm.out.below (hb.mono (by omega)))
  have HA := Lib.hid hr
  clear hr
  replace HB := Lib.hid (below_step HB.out hb)
  clear hb
  go_wp2_with fail
  refine (mk_any a1 c1 m _ ((HIm.out).more (by omega)) HMm.out).mono ?_
  intro e w2 hret
  obtain ⟨AC, cC, rfl, hr, hb⟩ := hret.get
  clear hret
  have hsz2 := hb.size
  replace HIl := Lib.hid (HIl.out.below (hb.mono (by omega)))
  replace HIm := Lib.hid (HIm.out.below (hb.mono (by omega)))
  replace HA := Lib.hid (HA.out.below (hb.mono (by omega)))
  have HC := Lib.hid hr
  clear hr
  replace HB := Lib.hid (below_step HB.out hb)
  clear hb
  have va := Rg.mk_valid l; have la := Rg.mk_len l; have lb := Rg.mk_len m
  generalize Rg.mk l = a at *
  generalize Rg.mk m = b at *
  have HV := Lib.hid va; clear va
  go_wp2_with fail
  refine (pick_any fr 50 (by omega) (by omega) _).mono ?_
  rintro e w101 ⟨rfl, hpw⟩
  subst hpw
  have x_lo := Kp.pick_lo fr 50 (by omega)
  have x_hi := Kp.pick_hi fr 50 (by omega)
  generalize Kp.pick fr 50 = x at *
  go_wp2_with fail
  refine (awake2_any _).mono ?_
  rintro e w3 ⟨rfl, hb⟩
  have hsz3 := hb.size
  replace HIl := Lib.hid (HIl.out.below (hb.mono (by omega)))
  replace HIm := Lib.hid (HIm.out.below (hb.mono (by omega)))
  replace HA := Lib.hid (HA.out.below (hb.mono (by omega)))
  replace HC := Lib.hid (HC.out.below (hb.mono (by omega)))
  replace HB := Lib.hid (below_step HB.out hb)
  clear hb
  go_wp2_with fail
  have hct := rcheck_any AA cA a 0 1114111 _ _ HA.out (by omega) (by omega)
  rw [show Rg.check a 0 1114111 = true from HV.out] at hct
  refine hct.mono ?_
  clear hct
  rintro e w4 ⟨rfl, hb⟩
  have hsz4 := hb.size
  replace HIl := Lib.hid (HIl.out.below (hb.mono (by omega)))
  replace HIm := Lib.hid (HIm.out.below (hb.mono (by omega)))
  replace HA := Lib.hid (HA.out.below (hb.mono (by omega)))
  replace HC := Lib.hid (HC.out.below (hb.mono (by omega)))
  replace HB := Lib.hid (below_step HB.out hb)
  clear hb
  go_wp2_with fail
  refine (pick_any lo 9 (by omega) (by omega) _).mono ?_
  rintro e w103 ⟨rfl, hpw⟩
  subst hpw
  have p1_lo := Kp.pick_lo lo 9 (by omega)
  have p1_hi := Kp.pick_hi lo 9 (by omega)
  generalize Kp.pick lo 9 = p1 at *
  go_wp2_with fail
  refine (pick_any lo 30 (by omega) (by omega) _).mono ?_
  rintro e w103 ⟨rfl, hpw⟩
  subst hpw
  have p2_lo := Kp.pick_lo lo 30 (by omega)
  have p2_hi := Kp.pick_hi lo 30 (by omega)
  generalize Kp.pick lo 30 = p2 at *
  go_wp2_with fail
  refine (pick_any c 60 (by omega) (by omega) _).mono ?_
  rintro e w103 ⟨rfl, hpw⟩
  subst hpw
  have p3_lo := Kp.pick_lo c 60 (by omega)
  have p3_hi := Kp.pick_hi c 60 (by omega)
  generalize Kp.pick c 60 = p3 at *
  go_wp2_with fail
  refine (pick_any tu 20 (by omega) (by omega) _).mono ?_
  rintro e w103 ⟨rfl, hpw⟩
  subst hpw
  have p4_lo := Kp.pick_lo tu 20 (by omega)
  have p4_hi := Kp.pick_hi tu 20 (by omega)
  generalize Kp.pick tu 20 = p4 at *
  go_wp2_with fail
  refine (pick_any v 3 (by omega) (by omega) _).mono ?_
  rintro e w103 ⟨rfl, hpw⟩
  subst hpw
  have p5_lo := Kp.pick_lo v 3 (by omega)
  have p5_hi := Kp.pick_hi v 3 (by omega)
  generalize Kp.pick v 3 = p5 at *
  go_wp2_with fail
  refine (agrees_any AA cA a AC cC b p1 (40 + p2) p3 x (x + p4 - 1) p5 w2.heap.size _ ((HA.out).more (by omega)) HC.out (by omega) (by omega) (by omega)).mono ?_
  rintro e w5 ⟨rfl, hb⟩
  have hsz5 := hb.size
  replace HIl := Lib.hid (HIl.out.below (hb.mono (by omega)))
  replace HIm := Lib.hid (HIm.out.below (hb.mono (by omega)))
  replace HA := Lib.hid (HA.out.below (hb.mono (by omega)))
  replace HC := Lib.hid (HC.out.below (hb.mono (by omega)))
  replace HB := Lib.hid (below_step HB.out hb)
  clear hb
  go_wp2
  go_ret
  first
    | exact ⟨rfl, HB.out⟩
    | exact ⟨by simp; omega, HB.out⟩
    | exact ⟨by simp, HB.out⟩
end Go.Proofs.Ythdfhijahkfjdaa
