/- The walk of the law RangesFull. -/
import Derived.Test.YthdfhijahkfjdaaMk
import Derived.Test.YthdfhijahkfjdaaAgrees
import Derived.IntWalk
namespace Go.Proofs.Ythdfhijahkfjdaa
open Go Go.RowKit
set_option linter.unusedVariables false

set_option maxRecDepth 100000 in
set_option maxHeartbeats 8000000 in
theorem walk_RangesFull (n : Int) (at_ : Int) (v : Int) (w : World) (w0 : (Lit.int .i64 n).wf = true) (w1 : (Lit.int .i64 at_).wf = true) (w2 : (Lit.int .i64 v).wf = true) :
    Calls Try.prog 3 #[.int .i64 n, .int .i64 at_, .int .i64 v] w fun e w' => e = .returned (.bool true) ∧ Below w.heap.size w w' := by
  clear w0 w1 w2
  have HB := Lib.hid (Below.refl w.heap.size w)
  go_enter Try.func3, Try.ntmps3
  go_wp2_with fail
  refine (pick_any n 4 (by omega) (by omega) _).mono ?_
  rintro e w99 ⟨rfl, hpw⟩
  subst hpw
  have p_lo := Kp.pick_lo n 4 (by omega)
  have p_hi := Kp.pick_hi n 4 (by omega)
  generalize Kp.pick n 4 = p at *
  obtain ⟨K, hK⟩ : ∃ K : Nat, (256 : Int) - p = (K : Int) := ⟨(256 - p).toNat, by omega⟩
  have hK1 : 253 ≤ K := by omega
  have hK2 : K ≤ 256 := by omega
  have HK := Lib.hid hK; clear hK
  go_wp2_with fail
  rw [HK.out]
  go_loopw [8, 9] (fun vl i wr => ∃ (j : Nat) (Ao : Option Addr) (co : Nat), j ≤ K ∧ i = .int .i64 j ∧ vl = .slice Ao j co ∧ wr.ownsRow w.heap.size 25 3 (.slice Ao j co) j (spans (Rg.row 0 j)) ∧ Below w.heap.size w wr) (fun _ i _ => K - (intOf i).toNat)
  case atStart => exact ⟨0, none, 0, by omega, rfl, rfl, World.ownsRow_nil _ _ _ _, HB.out⟩
  case round =>
    obtain ⟨j, Ao, co, hj, rfl, rfl, ho, hb⟩ := hrel
    have HO := Lib.hid ho; have HBW := Lib.hid hb
    have hswr := hb.size
    clear ho hb
    by_cases hlt : j < K
    · have hrs := Rg.row_succ 0 j
      rw [Nat.zero_add] at hrs
      have HRS := Lib.hid hrs; clear hrs
      go_wp2_with (at_builtin; refine app_span (by rfl) _ _ rfl (base := w.heap.size) rfl (HO.out.alloc _) rfl (rd_one_span_at (z := wr.heap.size) rfl ⟨10 * (j : Int), 10 * (j : Int) + 5, 1⟩) (by omega) (by simp <;> omega) ?_)
      intro A4 c4 w4 ho4 hg4 hc4
      have hsz4 := hg4.size
      have HB4 := Lib.hid ((HBW.out.alloc (by omega) (.cells #[.int .i64 (10 * (j : Int)), .int .i64 (10 * (j : Int) + 5), .int .i64 1] 25)).grown hg4 (by simp; omega) (fun q h => (HO.out.lt q h).1))
      have HO4 := Lib.hid (show w4.ownsRow w.heap.size 25 3 (.slice A4 (j + 1) c4) (j + 1) (spans (Rg.row 0 (j + 1))) by rw [HRS.out]; exact ho4)
      clear ho4 hg4 hc4 hsz4
      go_wp2
      go_roundw
      case rel => exact ⟨j + 1, A4, c4, by omega, by go_num, rfl, HO4.out, HB4.out⟩
      case measure => simp [intOf]; omega
    · have hjK : j = K := by omega
      subst hjK
      clear hlt hj
      replace HB := HBW
      have HA := Lib.hid (show Rd wr wr.heap.size 3 Ao j (spans (Rg.row 0 j)) from Rd.of_own HO.out)
      have hrl := Rg.row_len 0 j
      go_wp2_with fail
      refine (pick_any at_ (j : Int) (by omega) (by omega) _).mono ?_
      rintro e w99 ⟨rfl, hpw⟩
      subst hpw
      have q_lo := Kp.pick_lo at_ (j : Int) (by omega)
      have q_hi := Kp.pick_hi at_ (j : Int) (by omega)
      generalize Kp.pick at_ (j : Int) = q at *
      obtain ⟨q, rfl⟩ := Int.eq_ofNat_of_zero_le q_lo
      have hqK : q < j := by omega
      go_wp2_with fail
      refine (pick_any v 2 (by omega) (by omega) _).mono ?_
      rintro e w99 ⟨rfl, hpw⟩
      subst hpw
      have pv_lo := Kp.pick_lo v 2 (by omega)
      have pv_hi := Kp.pick_hi v 2 (by omega)
      generalize hpv : Kp.pick v 2 = pv at *
      have HPV := Lib.hid hpv; clear hpv
      obtain ⟨S, n1, e1, lS, f1, f2⟩ := Rg.full_law' j q (1 + pv) hqK hK2
      have HE1 := Lib.hid e1; clear e1
      have hrj : (Rg.row 0 j).length = j := hrl
      have HRJ := Lib.hid hrj
      clear hrj hrl
      have hpv2 : pv = 0 ∨ pv = 1 := by omega
      clear pv_lo pv_hi
      rcases hpv2 with rfl | rfl
      · obtain ⟨hn1, hS⟩ := f1 (by omega)
        subst hn1
        clear f1 f2
        go_wp2_with fail
        have hct := set_any Ao co (Rg.row 0 j) (10 * (q : Int) + 2) (10 * (q : Int) + 2) (1 + 0) wr.heap.size _ (by rw [HRJ.out]; exact HA.out) (by omega) (by rw [HRJ.out]; omega)
        rw [HE1.out, HRJ.out] at hct
        refine hct.mono ?_
        clear hct
        intro e w1 hret
        obtain ⟨AS, cS, rfl, hr, hb⟩ := hret.get
        clear hret hr
        have hsz1 := hb.size
        replace HB := Lib.hid (below_step HB.out hb)
        clear hb
        go_wp2_with fail
        have hct := pick_any v 2 (by omega) (by omega) w1
        rw [HPV.out] at hct
        refine hct.mono ?_
        clear hct
        rintro e w99 ⟨rfl, hpw⟩
        subst hpw
        have ks : ((S.length : Int) == (j : Int)) = true := by rw [hS]; simp
        go_wp2_with fail
        refine (awake2_any _).mono ?_
        rintro e w1 ⟨rfl, hb⟩
        have hsz1 := hb.size
        replace HB := Lib.hid (below_step HB.out hb)
        clear hb
        go_wp2
        go_ret
        first
          | exact ⟨rfl, HB.out⟩
          | exact ⟨by simp; omega, HB.out⟩
          | exact ⟨by simp, HB.out⟩
      · obtain ⟨f3, f4⟩ := f2 (by omega)
        clear f1 f2
        by_cases hbig : 256 < j + 2
        · have hn1 := f3 hbig
          subst hn1
          clear f3 f4
          go_wp2_with fail
          have hct := set_any Ao co (Rg.row 0 j) (10 * (q : Int) + 2) (10 * (q : Int) + 2) (1 + 1) wr.heap.size _ (by rw [HRJ.out]; exact HA.out) (by omega) (by rw [HRJ.out]; omega)
          rw [HE1.out, HRJ.out] at hct
          refine hct.mono ?_
          clear hct
          intro e w1 hret
          obtain ⟨AS, cS, rfl, hr, hb⟩ := hret.get
          clear hret hr
          have hsz1 := hb.size
          replace HB := Lib.hid (below_step HB.out hb)
          clear hb
          go_wp2_with fail
          have hct := pick_any v 2 (by omega) (by omega) w1
          rw [HPV.out] at hct
          refine hct.mono ?_
          clear hct
          rintro e w99 ⟨rfl, hpw⟩
          subst hpw
          go_wp2_with fail
          refine (awake2_any _).mono ?_
          rintro e w1 ⟨rfl, hb⟩
          have hsz1 := hb.size
          replace HB := Lib.hid (below_step HB.out hb)
          clear hb
          go_wp2
          go_ret
          first
            | exact ⟨rfl, HB.out⟩
            | exact ⟨by simp; omega, HB.out⟩
            | exact ⟨by simp, HB.out⟩
        · obtain ⟨hn1, hS⟩ := f4 (by omega)
          subst hn1
          clear f3 f4
          go_wp2_with fail
          have hct := set_any Ao co (Rg.row 0 j) (10 * (q : Int) + 2) (10 * (q : Int) + 2) (1 + 1) wr.heap.size _ (by rw [HRJ.out]; exact HA.out) (by omega) (by rw [HRJ.out]; omega)
          rw [HE1.out, HRJ.out] at hct
          refine hct.mono ?_
          clear hct
          intro e w1 hret
          obtain ⟨AS, cS, rfl, hr, hb⟩ := hret.get
          clear hret hr
          have hsz1 := hb.size
          replace HB := Lib.hid (below_step HB.out hb)
          clear hb
          go_wp2_with fail
          have hct := pick_any v 2 (by omega) (by omega) w1
          rw [HPV.out] at hct
          refine hct.mono ?_
          clear hct
          rintro e w99 ⟨rfl, hpw⟩
          subst hpw
          have ks : ((S.length : Int) == (j : Int) + 2) = true := by rw [hS]; simp
          go_wp2_with fail
          refine (awake2_any _).mono ?_
          rintro e w1 ⟨rfl, hb⟩
          have hsz1 := hb.size
          replace HB := Lib.hid (below_step HB.out hb)
          clear hb
          go_wp2
          go_ret
          first
            | exact ⟨rfl, HB.out⟩
            | exact ⟨by simp; omega, HB.out⟩
            | exact ⟨by simp, HB.out⟩
end Go.Proofs.Ythdfhijahkfjdaa
