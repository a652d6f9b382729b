/- The walk of the law RangesOverlay. -/
import Derived.Test.YthdfhijahkfjdaaMk
import Derived.Test.YthdfhijahkfjdaaAgrees
import Derived.IntWalk
namespace Go.Proofs.Ythdfhijahkfjdaa
open Go Go.RowKit
set_option linter.unusedVariables false

set_option maxRecDepth 100000 in
set_option maxHeartbeats 8000000 in
theorem walk_RangesOverlay (a0 : Option Addr) (c0 : Nat) (l : List Int) (a1 : Option Addr) (c1 : Nat) (m : List Int) (w : World) (r0 : Rd w w.heap.size 1 a0 l.length (intsK .i64 l)) (m0 : l.length ≤ maxLen) (f0 : ∀ n ∈ l, (Lit.int .i64 n).wf = true) (r1 : Rd w w.heap.size 1 a1 m.length (intsK .i64 m)) (m1 : m.length ≤ maxLen) (f1 : ∀ n ∈ m, (Lit.int .i64 n).wf = true) :
    Calls Try.prog 5 #[.slice a0 l.length c0, .slice a1 m.length c1] w fun e w' => e = .returned (.bool true) ∧ Below w.heap.size w w' := by
  have HB := Lib.hid (Below.refl w.heap.size w)
  have HIl := Lib.hid (show Rd w w.heap.size 1 a0 l.length (ints l) from r0)
  have HMl := Lib.hid m0
  clear r0 m0 f0
  have HIm := Lib.hid (show Rd w w.heap.size 1 a1 m.length (ints m) from r1)
  have HMm := Lib.hid m1
  clear r1 m1 f1
  go_enter Try.func5, Try.ntmps5
  go_wp2_with fail
  refine (mk_any a0 c0 l _ ((HIl.out).more (by omega)) HMl.out).mono ?_
  intro e w1 hret
  obtain ⟨AA, cA, rfl, hr, hb⟩ := hret.get
  clear hret
  have hsz1 := hb.size
  replace HIl := Lib.hid (HIl.out.below (hb.mono (by omega)))
  replace HIm := Lib.hid (HIm.out.below (hb.mono (by omega)))
  have HA := Lib.hid hr
  clear hr
  replace HB := Lib.hid (below_step HB.out hb)
  clear hb
  go_wp2_with fail
  refine (mk_any a1 c1 m _ ((HIm.out).more (by omega)) HMm.out).mono ?_
  intro e w2 hret
  obtain ⟨AC, cC, rfl, hr, hb⟩ := hret.get
  clear hret
  have hsz2 := hb.size
  replace HIl := Lib.hid (HIl.out.below (hb.mono (by omega)))
  replace HIm := Lib.hid (HIm.out.below (hb.mono (by omega)))
  replace HA := Lib.hid (HA.out.below (hb.mono (by omega)))
  have HC := Lib.hid hr
  clear hr
  replace HB := Lib.hid (below_step HB.out hb)
  clear hb
  have aa := Rg.mk_asc l; have la := Rg.mk_len l; have ab := Rg.mk_asc m; have lb := Rg.mk_len m
  generalize Rg.mk l = a at *
  generalize Rg.mk m = b at *
  obtain ⟨S, e1, lS, hF⟩ := Rg.over_law a b aa la ab lb
  have HE1 := Lib.hid e1; have HF := Lib.hid hF; clear e1 hF aa ab
  go_wp2_with fail
  have hct := over_any AA cA a AC cC b w2.heap.size _ ((HA.out).more (by omega)) HC.out (by omega) (by omega) (by omega)
  rw [HE1.out] at hct
  refine hct.mono ?_
  clear hct
  intro e w3 hret
  obtain ⟨AS, cS, rfl, hr, hb⟩ := hret.get
  clear hret
  have hsz3 := hb.size
  replace HIl := Lib.hid (HIl.out.below (hb.mono (by omega)))
  replace HIm := Lib.hid (HIm.out.below (hb.mono (by omega)))
  replace HA := Lib.hid (HA.out.below (hb.mono (by omega)))
  replace HC := Lib.hid (HC.out.below (hb.mono (by omega)))
  have HS := Lib.hid hr
  clear hr
  replace HB := Lib.hid (below_step HB.out hb)
  clear hb
  go_wp2_with fail
  go_loopw [9] (fun i wr => ∃ k : Nat, k ≤ 91 ∧ i = .int .i64 ((k : Int) - 1) ∧ Below w3.heap.size w3 wr) (fun i _ => 91 - (intOf i - (-1)).toNat)
  case atStart => exact ⟨0, by omega, rfl, Below.refl _ _⟩
  case round =>
    obtain ⟨k, hk, rfl, hbw⟩ := hrel
    have hswr := hbw.size
    replace HIl := Lib.hid (HIl.out.below (hbw.mono (by omega)))
    replace HIm := Lib.hid (HIm.out.below (hbw.mono (by omega)))
    replace HA := Lib.hid (HA.out.below (hbw.mono (by omega)))
    replace HC := Lib.hid (HC.out.below (hbw.mono (by omega)))
    replace HS := Lib.hid (HS.out.below (hbw.mono (by omega)))
    have HG := Lib.hid hbw
    clear hbw
    by_cases hlt : k < 91
    · skip
      obtain ⟨fv, fo, hfp⟩ : ∃ fv fo, Rg.findP a ((k : Int) - 1) = (fv, fo) := ⟨_, _, rfl⟩
      obtain ⟨gv, go, hgp⟩ : ∃ gv go, Rg.findP b ((k : Int) - 1) = (gv, go) := ⟨_, _, rfl⟩
      have hsf := HF.out ((k : Int) - 1)
      rw [hfp, hgp] at hsf
      have HFP := Lib.hid hfp; have HGP := Lib.hid hgp; clear hfp hgp
      cases go
      · replace hsf : Rg.findP S ((k : Int) - 1) = (fv, fo) := hsf
        have HSF := Lib.hid hsf; clear hsf
        go_wp2_with fail
        have hct := rfind_any AC cC b ((k : Int) - 1) w2.heap.size _ ((HC.out).more (by omega)) (by omega) (by omega)
        rw [HGP.out] at hct
        refine hct.mono ?_
        clear hct
        rintro e w4 ⟨rfl, hb⟩
        have hsz4 := hb.size
        replace HIl := Lib.hid (HIl.out.below (hb.mono (by omega)))
        replace HIm := Lib.hid (HIm.out.below (hb.mono (by omega)))
        replace HA := Lib.hid (HA.out.below (hb.mono (by omega)))
        replace HC := Lib.hid (HC.out.below (hb.mono (by omega)))
        replace HS := Lib.hid (HS.out.below (hb.mono (by omega)))
        replace HG := Lib.hid (below_step HG.out hb)
        clear hb
        go_wp2_with fail
        have hct := rfind_any AA cA a ((k : Int) - 1) w1.heap.size _ HA.out (by omega) (by omega)
        rw [HFP.out] at hct
        refine hct.mono ?_
        clear hct
        rintro e w5 ⟨rfl, hb⟩
        have hsz5 := hb.size
        replace HIl := Lib.hid (HIl.out.below (hb.mono (by omega)))
        replace HIm := Lib.hid (HIm.out.below (hb.mono (by omega)))
        replace HA := Lib.hid (HA.out.below (hb.mono (by omega)))
        replace HC := Lib.hid (HC.out.below (hb.mono (by omega)))
        replace HS := Lib.hid (HS.out.below (hb.mono (by omega)))
        replace HG := Lib.hid (below_step HG.out hb)
        clear hb
        go_wp2_with fail
        have hct := find_any AS cS S ((k : Int) - 1) w3.heap.size _ HS.out (by omega) (by omega)
        rw [HSF.out] at hct
        refine hct.mono ?_
        clear hct
        rintro e w6 ⟨rfl, hb⟩
        have hsz6 := hb.size
        replace HIl := Lib.hid (HIl.out.below (hb.mono (by omega)))
        replace HIm := Lib.hid (HIm.out.below (hb.mono (by omega)))
        replace HA := Lib.hid (HA.out.below (hb.mono (by omega)))
        replace HC := Lib.hid (HC.out.below (hb.mono (by omega)))
        replace HS := Lib.hid (HS.out.below (hb.mono (by omega)))
        replace HG := Lib.hid (below_step HG.out hb)
        clear hb
        have kv : (fv != fv) = false := by simp
        have ko : (fo != fo) = false := by simp
        go_wp2
        go_roundw
        case rel => exact ⟨k + 1, by omega, by go_num, HG.out⟩
        case measure => simp [intOf]; omega
      · replace hsf : Rg.findP S ((k : Int) - 1) = (gv, true) := hsf
        have HSF := Lib.hid hsf; clear hsf
        go_wp2_with fail
        have hct := rfind_any AC cC b ((k : Int) - 1) w2.heap.size _ ((HC.out).more (by omega)) (by omega) (by omega)
        rw [HGP.out] at hct
        refine hct.mono ?_
        clear hct
        rintro e w4 ⟨rfl, hb⟩
        have hsz4 := hb.size
        replace HIl := Lib.hid (HIl.out.below (hb.mono (by omega)))
        replace HIm := Lib.hid (HIm.out.below (hb.mono (by omega)))
        replace HA := Lib.hid (HA.out.below (hb.mono (by omega)))
        replace HC := Lib.hid (HC.out.below (hb.mono (by omega)))
        replace HS := Lib.hid (HS.out.below (hb.mono (by omega)))
        replace HG := Lib.hid (below_step HG.out hb)
        clear hb
        go_wp2_with fail
        have hct := find_any AS cS S ((k : Int) - 1) w3.heap.size _ HS.out (by omega) (by omega)
        rw [HSF.out] at hct
        refine hct.mono ?_
        clear hct
        rintro e w5 ⟨rfl, hb⟩
        have hsz5 := hb.size
        replace HIl := Lib.hid (HIl.out.below (hb.mono (by omega)))
        replace HIm := Lib.hid (HIm.out.below (hb.mono (by omega)))
        replace HA := Lib.hid (HA.out.below (hb.mono (by omega)))
        replace HC := Lib.hid (HC.out.below (hb.mono (by omega)))
        replace HS := Lib.hid (HS.out.below (hb.mono (by omega)))
        replace HG := Lib.hid (below_step HG.out hb)
        clear hb
        have kv : (gv != gv) = false := by simp
        go_wp2
        go_roundw
        case rel => exact ⟨k + 1, by omega, by go_num, HG.out⟩
        case measure => simp [intOf]; omega
    · have hkn : k = 91 := by omega
      subst hkn
      clear hlt hk
      replace HB := Lib.hid (below_step HB.out HG.out)
      go_wp2_with fail
      refine (awake2_any _).mono ?_
      rintro e w4 ⟨rfl, hb⟩
      have hsz4 := hb.size
      replace HIl := Lib.hid (HIl.out.below (hb.mono (by omega)))
      replace HIm := Lib.hid (HIm.out.below (hb.mono (by omega)))
      replace HA := Lib.hid (HA.out.below (hb.mono (by omega)))
      replace HC := Lib.hid (HC.out.below (hb.mono (by omega)))
      replace HS := Lib.hid (HS.out.below (hb.mono (by omega)))
      replace HB := Lib.hid (below_step HB.out hb)
      clear hb
      go_wp2
      go_ret
      first
        | exact ⟨rfl, HB.out⟩
        | exact ⟨by simp; omega, HB.out⟩
        | exact ⟨by simp, HB.out⟩
end Go.Proofs.Ythdfhijahkfjdaa
