/- The walk of the law RangesNormal. -/
import Derived.Test.YthdfhijahkfjdaaMk
import Derived.Test.YthdfhijahkfjdaaAgrees
import Derived.IntWalk
namespace Go.Proofs.Ythdfhijahkfjdaa
open Go Go.RowKit
set_option linter.unusedVariables false

set_option maxRecDepth 100000 in
set_option maxHeartbeats 8000000 in
theorem walk_RangesNormal (a0 : Option Addr) (c0 : Nat) (l : List Int) (w : World) (r0 : Rd w w.heap.size 1 a0 l.length (intsK .i64 l)) (m0 : l.length ≤ maxLen) (f0 : ∀ n ∈ l, (Lit.int .i64 n).wf = true) :
    Calls Try.prog 7 #[.slice a0 l.length c0] w fun e w' => e = .returned (.bool true) ∧ Below w.heap.size w w' := by
  have HB := Lib.hid (Below.refl w.heap.size w)
  have HIl := Lib.hid (show Rd w w.heap.size 1 a0 l.length (ints l) from r0)
  have HMl := Lib.hid m0
  clear r0 m0 f0
  go_enter Try.func7, Try.ntmps7
  go_wp2_with fail
  refine (mk_any a0 c0 l _ ((HIl.out).more (by omega)) HMl.out).mono ?_
  intro e w1 hret
  obtain ⟨AA, cA, rfl, hr, hb⟩ := hret.get
  clear hret
  have hsz1 := hb.size
  replace HIl := Lib.hid (HIl.out.below (hb.mono (by omega)))
  have HA := Lib.hid hr
  clear hr
  replace HB := Lib.hid (below_step HB.out hb)
  clear hb
  have aa := Rg.mk_asc l; have la := Rg.mk_len l
  generalize Rg.mk l = a at *
  obtain ⟨S, e1, lS, vS, e2, e3, hN, hO, hF⟩ := Rg.norm_law a aa la
  have HO := Lib.hid hO; clear hO
  have HE1 := Lib.hid e1; have HE2 := Lib.hid e2; have HE3 := Lib.hid e3; have HV := Lib.hid vS; have HN := Lib.hid hN; have HF := Lib.hid hF; clear e1 e2 e3 vS hN hF aa
  go_wp2_with fail
  have hct := normal_any AA cA a w1.heap.size _ HA.out (by omega) (by omega)
  rw [HE1.out] at hct
  refine hct.mono ?_
  clear hct
  intro e w2 hret
  obtain ⟨AS, cS, rfl, hr, hb⟩ := hret.get
  clear hret
  have hsz2 := hb.size
  replace HIl := Lib.hid (HIl.out.below (hb.mono (by omega)))
  replace HA := Lib.hid (HA.out.below (hb.mono (by omega)))
  have HS := Lib.hid hr
  clear hr
  replace HB := Lib.hid (below_step HB.out hb)
  clear hb
  go_wp2_with fail
  have hct := rfcheck_any AS cS S 0 1114111 w2.heap.size _ HS.out (by omega) (by omega)
  rw [show Rg.check S 0 1114111 = true from HV.out] at hct
  refine hct.mono ?_
  clear hct
  rintro e w3 ⟨rfl, hb⟩
  have hsz3 := hb.size
  replace HIl := Lib.hid (HIl.out.below (hb.mono (by omega)))
  replace HA := Lib.hid (HA.out.below (hb.mono (by omega)))
  replace HS := Lib.hid (HS.out.below (hb.mono (by omega)))
  replace HB := Lib.hid (below_step HB.out hb)
  clear hb
  go_wp2_with fail
  have hct := normal_any AS cS S w2.heap.size _ HS.out (by omega) (by omega)
  rw [HE2.out] at hct
  refine hct.mono ?_
  clear hct
  intro e w4 hret
  obtain ⟨AT, cT, rfl, hr, hb⟩ := hret.get
  clear hret
  have hsz4 := hb.size
  replace HIl := Lib.hid (HIl.out.below (hb.mono (by omega)))
  replace HA := Lib.hid (HA.out.below (hb.mono (by omega)))
  replace HS := Lib.hid (HS.out.below (hb.mono (by omega)))
  have HT := Lib.hid hr
  clear hr
  replace HB := Lib.hid (below_step HB.out hb)
  clear hb
  go_wp2_with fail
  refine (samesp_any AT AS _ _ cT cS S S w4.heap.size _ HT.out ((HS.out).more (by omega)) rfl (by omega)).mono ?_
  rintro e u0 ⟨rfl, q0, rfl⟩
  replace HB := Lib.hid (below_drewN HB.out q0)
  replace HIl := Lib.hid (HIl.out.drewN q0)
  replace HA := Lib.hid (HA.out.drewN q0)
  replace HS := Lib.hid (HS.out.drewN q0)
  replace HT := Lib.hid (HT.out.drewN q0)
  have hd : (w4.drewN q0).heap.size = w4.heap.size := rfl
  go_wp2_with fail
  generalize w4.drewN q0 = wd at *
  have hct := count_any AS cS S w2.heap.size _ HS.out (by omega) (by omega)
  rw [HE3.out] at hct
  refine hct.mono ?_
  clear hct
  rintro e w5 ⟨rfl, hb⟩
  have hsz5 := hb.size
  replace HIl := Lib.hid (HIl.out.below (hb.mono (by omega)))
  replace HA := Lib.hid (HA.out.below (hb.mono (by omega)))
  replace HS := Lib.hid (HS.out.below (hb.mono (by omega)))
  replace HT := Lib.hid (HT.out.below (hb.mono (by omega)))
  replace HB := Lib.hid (below_step HB.out hb)
  clear hb
  go_wp2_with fail
  refine (rcount_any AA cA a w1.heap.size _ HA.out (by omega) (by omega)).mono ?_
  rintro e w6 ⟨rfl, hb⟩
  have hsz6 := hb.size
  replace HIl := Lib.hid (HIl.out.below (hb.mono (by omega)))
  replace HA := Lib.hid (HA.out.below (hb.mono (by omega)))
  replace HS := Lib.hid (HS.out.below (hb.mono (by omega)))
  replace HT := Lib.hid (HT.out.below (hb.mono (by omega)))
  replace HB := Lib.hid (below_step HB.out hb)
  clear hb
  generalize Rg.countP a = ct at *
  have kc : (ct != ct) = false := by simp
  go_wp2_with fail
  go_loopw [5] (fun i wr => ∃ k : Nat, k ≤ 6 ∧ i = .int .i64 ((k : Int) + 1) ∧ ∃ q, wr = w6.drewN q) (fun i _ => 20 - (intOf i).toNat)
  case atStart => exact ⟨0, by omega, rfl, 0, rfl⟩
  case round =>
    obtain ⟨k, hk, rfl, q, rfl⟩ := hrel
    by_cases hlt : k + 1 < S.length
    · skip
      obtain ⟨b, off, s, hA, _, hs, a1, a2, a3⟩ := spans_cell HS.out (k := k) (by omega)
      subst hA
      obtain ⟨b', off', s', he, _, hs', b1, b2, b3⟩ := spans_cell HS.out (k := k + 1) (by omega)
      injection he with he; injection he with he1 he2 _; subst he1; subst he2
      have hnr := HN.out k s s' hs hs'
      obtain ⟨o1, o2, o3⟩ := HO.out k s hs
      clear hs hs'
      have hk0 : (0 : Int) ≤ (k : Int) := by omega
      have hk1 : (k : Int) + 1 < (S.length : Int) := by omega
      have hk2 : (k : Int) < (S.length : Int) := by omega
      have hk3 : (0 : Int) ≤ (k : Int) + 1 := by omega
      have hx : s'.f = s.t + 1 ∨ s'.f ≠ s.t + 1 := by omega
      have hvv : s'.f = s.t + 1 → (s'.v == s.v) = false := by intro hf; rw [beq_eq_false_iff_ne]; intro h; exact hnr ⟨h.symm, by omega⟩
      have t1 : ((k : Int) + 1).toNat = k + 1 := by omega
      have t2 : IntKind.i64.wrap ((k : Int) + 1 - 1) = (k : Int) := by rw [IntWalk.i64_in _ (by omega)]; omega
      have t3 : IntKind.i64.wrap (s.t + 1) = s.t + 1 := IntWalk.i64_in _ (by omega)
      rcases hx with hf | hf
      · have kf : (s'.f == s.t + 1) = true := by simp [hf]
        have kv := hvv hf
        clear hf hnr hvv
        go_wp2_with fail
        go_quiet (fail)
        clear t1 t2 t3
        go_wp2
        go_roundw
        case rel => exact ⟨k + 1, by omega, by go_num, _, rfl⟩
        case measure => simp [intOf]; omega
      · have kf : (s'.f == s.t + 1) = false := by simp; exact hf
        clear hf hnr hvv
        go_wp2_with fail
        go_quiet (fail)
        clear t1 t2 t3
        go_wp2
        go_roundw
        case rel => exact ⟨k + 1, by omega, by go_num, _, rfl⟩
        case measure => simp [intOf]; omega
    · skip
      replace HIl := Lib.hid (HIl.out.drewN q)
      replace HA := Lib.hid (HA.out.drewN q)
      replace HS := Lib.hid (HS.out.drewN q)
      replace HT := Lib.hid (HT.out.drewN q)
      replace HB := Lib.hid (below_drewN HB.out q)
      have hd2 : (w6.drewN q).heap.size = w6.heap.size := rfl
      go_wp2_with fail
      generalize w6.drewN q = wq at *
      go_loopw [6] (fun i wr => ∃ k : Nat, k ≤ 90 ∧ i = .int .i64 ((k : Int)) ∧ Below wq.heap.size wq wr) (fun i _ => 90 - (intOf i - (0)).toNat)
      case atStart => exact ⟨0, by omega, rfl, Below.refl _ _⟩
      case round =>
        obtain ⟨k, hk, rfl, hbw⟩ := hrel
        have hswr := hbw.size
        replace HIl := Lib.hid (HIl.out.below (hbw.mono (by omega)))
        replace HA := Lib.hid (HA.out.below (hbw.mono (by omega)))
        replace HS := Lib.hid (HS.out.below (hbw.mono (by omega)))
        replace HT := Lib.hid (HT.out.below (hbw.mono (by omega)))
        have HG := Lib.hid hbw
        clear hbw
        by_cases hlt : k < 90
        · skip
          obtain ⟨fv, fo, hfp⟩ : ∃ fv fo, Rg.findP a (k : Int) = (fv, fo) := ⟨_, _, rfl⟩
          have hsf := HF.out (k : Int)
          rw [hfp] at hsf
          have HFP := Lib.hid hfp; have HSF := Lib.hid hsf; clear hfp hsf
          go_wp2_with fail
          have hct := rfind_any AA cA a (k : Int) w1.heap.size _ HA.out (by omega) (by omega)
          rw [HFP.out] at hct
          refine hct.mono ?_
          clear hct
          rintro e w7 ⟨rfl, hb⟩
          have hsz7 := hb.size
          replace HIl := Lib.hid (HIl.out.below (hb.mono (by omega)))
          replace HA := Lib.hid (HA.out.below (hb.mono (by omega)))
          replace HS := Lib.hid (HS.out.below (hb.mono (by omega)))
          replace HT := Lib.hid (HT.out.below (hb.mono (by omega)))
          replace HG := Lib.hid (below_step HG.out hb)
          clear hb
          go_wp2_with fail
          have hct := find_any AS cS S (k : Int) w2.heap.size _ HS.out (by omega) (by omega)
          rw [HSF.out] at hct
          refine hct.mono ?_
          clear hct
          rintro e w8 ⟨rfl, hb⟩
          have hsz8 := hb.size
          replace HIl := Lib.hid (HIl.out.below (hb.mono (by omega)))
          replace HA := Lib.hid (HA.out.below (hb.mono (by omega)))
          replace HS := Lib.hid (HS.out.below (hb.mono (by omega)))
          replace HT := Lib.hid (HT.out.below (hb.mono (by omega)))
          replace HG := Lib.hid (below_step HG.out hb)
          clear hb
          have kv : (fv != fv) = false := by simp
          have ko : (fo != fo) = false := by simp
          go_wp2
          go_roundw
          case rel => exact ⟨k + 1, by omega, by go_num, HG.out⟩
          case measure => simp [intOf]; omega
        · have hkn : k = 90 := by omega
          subst hkn
          clear hlt hk
          replace HB := Lib.hid (below_step HB.out HG.out)
          go_wp2_with fail
          refine (awake2_any _).mono ?_
          rintro e w7 ⟨rfl, hb⟩
          have hsz7 := hb.size
          replace HIl := Lib.hid (HIl.out.below (hb.mono (by omega)))
          replace HA := Lib.hid (HA.out.below (hb.mono (by omega)))
          replace HS := Lib.hid (HS.out.below (hb.mono (by omega)))
          replace HT := Lib.hid (HT.out.below (hb.mono (by omega)))
          replace HB := Lib.hid (below_step HB.out hb)
          clear hb
          go_wp2
          go_ret
          first
            | exact ⟨rfl, HB.out⟩
            | exact ⟨by simp; omega, HB.out⟩
            | exact ⟨by simp, HB.out⟩
end Go.Proofs.Ythdfhijahkfjdaa
