/- The walk of the law RangesSet. -/
import Derived.Test.YthdfhijahkfjdaaMk
import Derived.Test.YthdfhijahkfjdaaAgrees
import Derived.IntWalk
namespace Go.Proofs.Ythdfhijahkfjdaa
open Go Go.RowKit
set_option linter.unusedVariables false

set_option maxRecDepth 100000 in
set_option maxHeartbeats 8000000 in
theorem walk_RangesSet (a0 : Option Addr) (c0 : Nat) (l : List Int) (fr : Int) (tu : Int) (v : Int) (w : World) (r0 : Rd w w.heap.size 1 a0 l.length (intsK .i64 l)) (m0 : l.length ≤ maxLen) (f0 : ∀ n ∈ l, (Lit.int .i64 n).wf = true) (w1 : (Lit.int .i64 fr).wf = true) (w2 : (Lit.int .i64 tu).wf = true) (w3 : (Lit.int .i64 v).wf = true) :
    Calls Try.prog 4 #[.slice a0 l.length c0, .int .i64 fr, .int .i64 tu, .int .i64 v] w fun e w' => e = .returned (.bool true) ∧ Below w.heap.size w w' := by
  have HB := Lib.hid (Below.refl w.heap.size w)
  have HIl := Lib.hid (show Rd w w.heap.size 1 a0 l.length (ints l) from r0)
  have HMl := Lib.hid m0
  clear r0 m0 f0
  clear w1 w2 w3
  go_enter Try.func4, Try.ntmps4
  go_wp2_with fail
  refine (mk_any a0 c0 l _ ((HIl.out).more (by omega)) HMl.out).mono ?_
  intro e w1 hret
  obtain ⟨AA, cA, rfl, hr, hb⟩ := hret.get
  clear hret
  have hsz1 := hb.size
  replace HIl := Lib.hid (HIl.out.below (hb.mono (by omega)))
  have HA := Lib.hid hr
  clear hr
  replace HB := Lib.hid (below_step HB.out hb)
  clear hb
  have aa := Rg.mk_asc l; have la := Rg.mk_len l
  generalize Rg.mk l = a at *
  go_wp2_with fail
  refine (pick_any fr 50 (by omega) (by omega) _).mono ?_
  rintro e w100 ⟨rfl, hpw⟩
  subst hpw
  have x_lo := Kp.pick_lo fr 50 (by omega)
  have x_hi := Kp.pick_hi fr 50 (by omega)
  generalize Kp.pick fr 50 = x at *
  go_wp2_with fail
  refine (pick_any tu 20 (by omega) (by omega) _).mono ?_
  rintro e w100 ⟨rfl, hpw⟩
  subst hpw
  have p_lo := Kp.pick_lo tu 20 (by omega)
  have p_hi := Kp.pick_hi tu 20 (by omega)
  generalize Kp.pick tu 20 = p at *
  obtain ⟨S, T, e1, e2, lS, lT, hF⟩ := Rg.set_law a x (x + p) v aa (by omega) (by omega) (by omega) (by omega)
  have HE1 := Lib.hid e1; have HE2 := Lib.hid e2; have HF := Lib.hid hF; clear e1 e2 hF aa
  go_wp2_with fail
  have hct := set_any AA cA a x (x + p) v _ _ HA.out (by omega) (by omega)
  rw [HE1.out] at hct
  refine hct.mono ?_
  clear hct
  intro e w2 hret
  obtain ⟨AS, cS, rfl, hr, hb⟩ := hret.get
  clear hret
  have hsz2 := hb.size
  replace HIl := Lib.hid (HIl.out.below (hb.mono (by omega)))
  replace HA := Lib.hid (HA.out.below (hb.mono (by omega)))
  have HS := Lib.hid hr
  clear hr
  replace HB := Lib.hid (below_step HB.out hb)
  clear hb
  go_wp2_with fail
  have hct := clear_any AA cA a x (x + p) _ _ ((HA.out)) (by omega) (by omega)
  rw [HE2.out] at hct
  refine hct.mono ?_
  clear hct
  intro e w3 hret
  obtain ⟨AT, cT, rfl, hr, hb⟩ := hret.get
  clear hret
  have hsz3 := hb.size
  replace HIl := Lib.hid (HIl.out.below (hb.mono (by omega)))
  replace HA := Lib.hid (HA.out.below (hb.mono (by omega)))
  replace HS := Lib.hid (HS.out.below (hb.mono (by omega)))
  have HT := Lib.hid hr
  clear hr
  replace HB := Lib.hid (below_step HB.out hb)
  clear hb
  go_wp2_with fail
  go_loopw [16] (fun i wr => ∃ k : Nat, k ≤ 91 ∧ i = .int .i64 ((k : Int) - 1) ∧ Below w3.heap.size w3 wr) (fun i _ => 91 - (intOf i - (-1)).toNat)
  case atStart => exact ⟨0, by omega, rfl, Below.refl _ _⟩
  case round =>
    obtain ⟨k, hk, rfl, hbw⟩ := hrel
    have hswr := hbw.size
    replace HIl := Lib.hid (HIl.out.below (hbw.mono (by omega)))
    replace HA := Lib.hid (HA.out.below (hbw.mono (by omega)))
    replace HS := Lib.hid (HS.out.below (hbw.mono (by omega)))
    replace HT := Lib.hid (HT.out.below (hbw.mono (by omega)))
    have HG := Lib.hid hbw
    clear hbw
    by_cases hlt : k < 91
    · skip
      have hin1 := HF.out ((k : Int) - 1)
      obtain ⟨fv, fo, hfp⟩ : ∃ fv fo, Rg.findP a ((k : Int) - 1) = (fv, fo) := ⟨_, _, rfl⟩
      have HFP := Lib.hid hfp; clear hfp
      by_cases hin : x ≤ (k : Int) - 1 ∧ (k : Int) - 1 ≤ x + p
      · skip
        have hsf := (hin1.1 hin).1; have htf := (hin1.1 hin).2
        have HSF := Lib.hid hsf; have HTF := Lib.hid htf; clear hsf htf hin1
        obtain ⟨hin1, hin2⟩ := hin
        go_wp2_with fail
        have hct := rfind_any AA cA a ((k : Int) - 1) _ _ HA.out (by omega) (by omega)
        rw [HFP.out] at hct
        refine hct.mono ?_
        clear hct
        rintro e w4 ⟨rfl, hb⟩
        have hsz4 := hb.size
        replace HIl := Lib.hid (HIl.out.below (hb.mono (by omega)))
        replace HA := Lib.hid (HA.out.below (hb.mono (by omega)))
        replace HS := Lib.hid (HS.out.below (hb.mono (by omega)))
        replace HT := Lib.hid (HT.out.below (hb.mono (by omega)))
        replace HG := Lib.hid (below_step HG.out hb)
        clear hb
        go_wp2_with fail
        have hct := find_any AS cS S ((k : Int) - 1) _ _ HS.out (by omega) (by omega)
        rw [HSF.out] at hct
        refine hct.mono ?_
        clear hct
        rintro e w5 ⟨rfl, hb⟩
        have hsz5 := hb.size
        replace HIl := Lib.hid (HIl.out.below (hb.mono (by omega)))
        replace HA := Lib.hid (HA.out.below (hb.mono (by omega)))
        replace HS := Lib.hid (HS.out.below (hb.mono (by omega)))
        replace HT := Lib.hid (HT.out.below (hb.mono (by omega)))
        replace HG := Lib.hid (below_step HG.out hb)
        clear hb
        go_wp2_with fail
        have hct := find_any AT cT T ((k : Int) - 1) _ _ HT.out (by omega) (by omega)
        rw [HTF.out] at hct
        refine hct.mono ?_
        clear hct
        rintro e w6 ⟨rfl, hb⟩
        have hsz6 := hb.size
        replace HIl := Lib.hid (HIl.out.below (hb.mono (by omega)))
        replace HA := Lib.hid (HA.out.below (hb.mono (by omega)))
        replace HS := Lib.hid (HS.out.below (hb.mono (by omega)))
        replace HT := Lib.hid (HT.out.below (hb.mono (by omega)))
        replace HG := Lib.hid (below_step HG.out hb)
        clear hb
        have kv : (v != v) = false := by simp
        go_wp2
        go_roundw
        case rel => exact ⟨k + 1, by omega, by go_num, HG.out⟩
        case measure => simp [intOf]; omega
      · skip
        have hsf := (hin1.2 hin).1; have htf := (hin1.2 hin).2
        rw [HFP.out] at hsf htf
        have HSF := Lib.hid hsf; have HTF := Lib.hid htf; clear hsf htf hin1
        have hin3 : (k : Int) - 1 < x ∨ x + p < (k : Int) - 1 := by omega
        clear hin
        rcases hin3 with hin3 | hin3
        · skip
          go_wp2_with fail
          have hct := rfind_any AA cA a ((k : Int) - 1) _ _ HA.out (by omega) (by omega)
          rw [HFP.out] at hct
          refine hct.mono ?_
          clear hct
          rintro e w4 ⟨rfl, hb⟩
          have hsz4 := hb.size
          replace HIl := Lib.hid (HIl.out.below (hb.mono (by omega)))
          replace HA := Lib.hid (HA.out.below (hb.mono (by omega)))
          replace HS := Lib.hid (HS.out.below (hb.mono (by omega)))
          replace HT := Lib.hid (HT.out.below (hb.mono (by omega)))
          replace HG := Lib.hid (below_step HG.out hb)
          clear hb
          go_wp2_with fail
          have hct := find_any AS cS S ((k : Int) - 1) _ _ HS.out (by omega) (by omega)
          rw [HSF.out] at hct
          refine hct.mono ?_
          clear hct
          rintro e w5 ⟨rfl, hb⟩
          have hsz5 := hb.size
          replace HIl := Lib.hid (HIl.out.below (hb.mono (by omega)))
          replace HA := Lib.hid (HA.out.below (hb.mono (by omega)))
          replace HS := Lib.hid (HS.out.below (hb.mono (by omega)))
          replace HT := Lib.hid (HT.out.below (hb.mono (by omega)))
          replace HG := Lib.hid (below_step HG.out hb)
          clear hb
          go_wp2_with fail
          have hct := find_any AT cT T ((k : Int) - 1) _ _ HT.out (by omega) (by omega)
          rw [HTF.out] at hct
          refine hct.mono ?_
          clear hct
          rintro e w6 ⟨rfl, hb⟩
          have hsz6 := hb.size
          replace HIl := Lib.hid (HIl.out.below (hb.mono (by omega)))
          replace HA := Lib.hid (HA.out.below (hb.mono (by omega)))
          replace HS := Lib.hid (HS.out.below (hb.mono (by omega)))
          replace HT := Lib.hid (HT.out.below (hb.mono (by omega)))
          replace HG := Lib.hid (below_step HG.out hb)
          clear hb
          have kv : (fv != fv) = false := by simp
          have ko : (fo != fo) = false := by simp
          go_wp2
          go_roundw
          case rel => exact ⟨k + 1, by omega, by go_num, HG.out⟩
          case measure => simp [intOf]; omega
        · have hin4 : x ≤ (k : Int) - 1 := by omega
          go_wp2_with fail
          have hct := rfind_any AA cA a ((k : Int) - 1) _ _ HA.out (by omega) (by omega)
          rw [HFP.out] at hct
          refine hct.mono ?_
          clear hct
          rintro e w4 ⟨rfl, hb⟩
          have hsz4 := hb.size
          replace HIl := Lib.hid (HIl.out.below (hb.mono (by omega)))
          replace HA := Lib.hid (HA.out.below (hb.mono (by omega)))
          replace HS := Lib.hid (HS.out.below (hb.mono (by omega)))
          replace HT := Lib.hid (HT.out.below (hb.mono (by omega)))
          replace HG := Lib.hid (below_step HG.out hb)
          clear hb
          go_wp2_with fail
          have hct := find_any AS cS S ((k : Int) - 1) _ _ HS.out (by omega) (by omega)
          rw [HSF.out] at hct
          refine hct.mono ?_
          clear hct
          rintro e w5 ⟨rfl, hb⟩
          have hsz5 := hb.size
          replace HIl := Lib.hid (HIl.out.below (hb.mono (by omega)))
          replace HA := Lib.hid (HA.out.below (hb.mono (by omega)))
          replace HS := Lib.hid (HS.out.below (hb.mono (by omega)))
          replace HT := Lib.hid (HT.out.below (hb.mono (by omega)))
          replace HG := Lib.hid (below_step HG.out hb)
          clear hb
          go_wp2_with fail
          have hct := find_any AT cT T ((k : Int) - 1) _ _ HT.out (by omega) (by omega)
          rw [HTF.out] at hct
          refine hct.mono ?_
          clear hct
          rintro e w6 ⟨rfl, hb⟩
          have hsz6 := hb.size
          replace HIl := Lib.hid (HIl.out.below (hb.mono (by omega)))
          replace HA := Lib.hid (HA.out.below (hb.mono (by omega)))
          replace HS := Lib.hid (HS.out.below (hb.mono (by omega)))
          replace HT := Lib.hid (HT.out.below (hb.mono (by omega)))
          replace HG := Lib.hid (below_step HG.out hb)
          clear hb
          have kv : (fv != fv) = false := by simp
          have ko : (fo != fo) = false := by simp
          go_wp2
          go_roundw
          case rel => exact ⟨k + 1, by omega, by go_num, HG.out⟩
          case measure => simp [intOf]; omega
    · have hkn : k = 91 := by omega
      subst hkn
      clear hlt hk
      replace HB := Lib.hid (below_step HB.out HG.out)
      go_wp2_with fail
      refine (awake2_any _).mono ?_
      rintro e w4 ⟨rfl, hb⟩
      have hsz4 := hb.size
      replace HIl := Lib.hid (HIl.out.below (hb.mono (by omega)))
      replace HA := Lib.hid (HA.out.below (hb.mono (by omega)))
      replace HS := Lib.hid (HS.out.below (hb.mono (by omega)))
      replace HT := Lib.hid (HT.out.below (hb.mono (by omega)))
      replace HB := Lib.hid (below_step HB.out hb)
      clear hb
      go_wp2
      go_ret
      first
        | exact ⟨rfl, HB.out⟩
        | exact ⟨by simp; omega, HB.out⟩
        | exact ⟨by simp, HB.out⟩
end Go.Proofs.Ythdfhijahkfjdaa
