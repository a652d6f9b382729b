/- The walk of the law that Join gives back what Labels was given. -/
import Derived.Test.YtddlafcnfdohnaaKeeps
namespace Go.Proofs.Ytddlafcnfdohnaa
open Go Go.RowKit
set_option linter.unusedVariables false

theorem Sp.mem_total (l : List (List Int)) (y : List Int) (h : y ∈ l) : y.length ≤ Sp.total l := by
  induction l with
  | nil => cases h
  | cons a r ih =>
    simp [Sp.total] at ih ⊢
    rcases List.mem_cons.1 h with rfl | h
    · omega
    · have := ih h; omega
/-- An element of an array of two slices. -/
theorem idx0 (v0 v1 : Value) (w : World) : (Instr.index 32 (.agg #[v0, v1]) (.int .i64 0)).run Try.prog w = .ok v0 w := by
  have hu := Try.underlying32
  obtain ⟨i0, hi, hz0, hz1, hz2⟩ := info_parts info_row
  simp [Instr.index, run_underlying hu, asIntOf, part, Sem.run_bind, hi, hz1]
theorem idx1 (v0 v1 : Value) (w : World) : (Instr.index 32 (.agg #[v0, v1]) (.int .i64 1)).run Try.prog w = .ok v1 w := by
  have hu := Try.underlying32
  obtain ⟨i0, hi, hz0, hz1, hz2⟩ := info_parts info_row
  simp [Instr.index, run_underlying hu, asIntOf, part, Sem.run_bind, hi, hz1]

set_option maxHeartbeats 4000000 in
theorem walk_SplitBack (a0 : Option Addr) (c0 : Nat) (x0 : List Int) (a1 : Option Addr) (c1 : Nat) (x1 : List Int) (w : World) (r0 : Rd w w.heap.size 1 a0 x0.length (intsK .i64 x0)) (m0 : x0.length ≤ maxLen) (f0 : ∀ n ∈ x0, (Lit.int .i64 n).wf = true) (u0 : x0.length ≤ 1048576)
    (r1 : Rd w w.heap.size 1 a1 x1.length (intsK .i64 x1)) (m1 : x1.length ≤ maxLen) (f1 : ∀ n ∈ x1, (Lit.int .i64 n).wf = true) (u1 : x1.length ≤ 1048576) :
    Calls Try.prog 4 #[.slice a0 x0.length c0, .slice a1 x1.length c1] w fun e w' => e = .returned (.bool true) ∧ Below w.heap.size w w' := by
  have HR0 := Lib.hid (show Rd w w.heap.size 1 a0 x0.length (ints x0) from r0)
  have HR1 := Lib.hid (show Rd w w.heap.size 1 a1 x1.length (ints x1) from r1); have HM1 := Lib.hid m1
  clear r0 m0 f0 r1 m1 f1 u1
  go_enter Try.func4, Try.ntmps4
  go_wp2_with fail
  refine (points_any _ _ _ _ HR1.out HM1.out).mono ?_
  have hpl := pts_length x1
  rintro e w1 ⟨A1, c1', rfl, ho1, hb1⟩
  have hsz1 := hb1.size
  have HP := Lib.hid (Rd.of_own ho1); have HB1 := Lib.hid hb1
  have HR := Lib.hid ((HR0.out.below hb1).more hsz1)
  clear ho1 hb1
  go_wp2_with fail
  have hi0 := idx0 (.slice a0 x0.length c0) (.slice A1 (pts x1).length c1')
  have hi1 := idx1 (.slice a0 x0.length c0) (.slice A1 (pts x1).length c1')
  go_loopw [19] (fun i wr => ∃ k : Nat, k ≤ 2 ∧ i = .int .i64 k ∧ Below w1.heap.size w1 wr) (fun i _ => 2 - (intOf i).toNat)
  case atStart => exact ⟨0, by omega, rfl, Below.refl _ _⟩
  case round =>
    obtain ⟨k, hk, rfl, hb⟩ := hrel
    have HB := Lib.hid hb; clear hb
    by_cases hlt0 : k < 2
    · have hk01 : k = 0 ∨ k = 1 := by omega
      clear hk hlt0
      rcases hk01 with rfl | rfl

      · have hlen : x0.length ≤ 1048576 := by omega
        have hrd : Rd wr wr.heap.size 1 a0 x0.length (ints x0) := (HR.out.below HB.out).more HB.out.size
        have HRD := Lib.hid hrd; clear hrd
        have hsz := HB.out.size
        go_wp2_with fail
        refine (labels_any a0 c0 x0 _ HRD.out (by omega)).mono ?_
        rintro e w2 ⟨A2, c2, vs, rfl, ho2, hrw2, hb2⟩
        have HRR := Lib.hid (rdr_of ho2 hrw2)
        have HX2 := Lib.hid ((HRD.out.below hb2))
        have hsz2 := hb2.size
        have HB2 := Lib.hid (HB.out.trans (hb2.mono hsz))
        clear ho2 hrw2 hb2
        have hll := Sp.labels_length x0
        have hdl := Sp.dots_le x0
        have htl := Sp.total_labels x0
        have HJL := Lib.hid (Sp.join_labels x0)
        have HND := Lib.hid (Sp.nodot x0)
        generalize hys : Sp.labels x0 = yss at *
        clear hys
        go_wp2_with fail
        go_loop [8, 26] (fun n i => ∃ j : Nat, j ≤ x0.length ∧ i = .int .i64 j ∧ n = .int .i64 (1 + (Sp.dots (x0.take j) : Nat))) (fun _ i => x0.length - (intOf i).toNat)
        case atStart => exact ⟨0, by omega, rfl, rfl⟩
        case round =>
          obtain ⟨j, hj, rfl, rfl⟩ := hrel
          have hdj : Sp.dots (x0.take j) ≤ j := Nat.le_trans (Sp.dots_le _) (by simp; omega)
          by_cases hlt : j < x0.length
          · obtain ⟨b, off, u, rfl, _, hu, hcu⟩ := ints_cell HX2.out hlt
            have hts : x0.take (j + 1) = x0.take j ++ [u] := by
              obtain ⟨hk', rfl⟩ := List.getElem?_eq_some_iff.1 hu
              rw [List.take_succ_eq_append_getElem hk']
            have hds : Sp.dots (x0.take (j + 1)) = Sp.dots (x0.take j) + if u = 46 then 1 else 0 := by rw [hts, Sp.dots_snoc]
            have HDS := Lib.hid hds; clear hds hts hu
            generalize Sp.dots (x0.take j) = dj at *
            by_cases h46 : u = 46
            · have hb46 : (u == 46) = true := by rw [beq_iff_eq]; exact h46
              have hif : (if u = 46 then 1 else 0) = 1 := if_pos h46
              rw [hif] at HDS
              clear h46 hif
              go_wp2
              go_round
              case rel => exact ⟨j + 1, by omega, by go_num, by rw [HDS.out]; go_num⟩
              case measure => simp [intOf]; omega
            · have hb46 : (u == 46) = false := by rw [beq_eq_false_iff_ne]; exact h46
              have hif : (if u = 46 then 1 else 0) = 0 := if_neg h46
              rw [hif] at HDS
              clear h46 hif
              go_wp2
              go_round
              case rel => exact ⟨j + 1, by omega, by go_num, by rw [HDS.out]; rfl⟩
              case measure => simp [intOf]; omega
          · have hje : x0.take j = x0 := List.take_of_length_le (by omega)
            have HJE := Lib.hid hje; clear hje
            rw [HJE.out]
            have HLL := Lib.hid hll; clear hll
            generalize Sp.dots x0 = dn at *
            have hny : yss.length ≤ 1048577 := by rw [HLL.out]; omega
            have hjn := join_any A2 c2 yss _ w2 HRR.out (Nat.le_refl _) (by omega) (by unfold maxLen; omega)
            rw [HJL.out] at hjn
            have HJN := Lib.hid hjn; clear hjn
            generalize hnn : yss.length = ny at *
            have hny1 : ny = 1 + dn := HLL.out
            clear HLL
            subst hny1
            have HNN := Lib.hid hnn; clear hnn
            have HTL := Lib.hid htl
            clear HJE htl
            go_wp2_with fail
            refine HJN.out.mono ?_
            rintro e w3 ⟨A3, c3, rfl, ho3, hb3⟩
            have HB3 := Lib.hid (HB2.out.trans (hb3.mono (by omega)))
            have HRR3 := Lib.hid (HRR.out.below hb3)
            have HX3 := Lib.hid (HX2.out.below (hb3.mono (by omega)))
            have HY3 := Lib.hid (Rd.of_own ho3)
            have hsz3 := hb3.size
            clear ho3 hb3 HJN
            go_wp2_with fail
            refine (same_ok _ _ _ _ _ _ x0 x0 w3.heap.size _ HY3.out (HX3.out.more (by omega)) (by unfold maxLen; omega) (by unfold maxLen; omega) rfl).mono ?_
            rintro e w4 ⟨rfl, m4, rfl⟩
            have HB4 := Lib.hid (below_drewN HB3.out m4)
            have HRR4 := Lib.hid (HRR3.out.drewN m4)
            have hsz4 : w3.heap.size = (w3.drewN m4).heap.size := rfl
            generalize w3.drewN m4 = w4 at *
            go_wp2_with fail
            go_loop [48] (fun i => ∃ q : Nat, q ≤ 1 + dn ∧ i = .int .i64 q) (fun i => (1 + dn) - (intOf i).toNat)
            case atStart => exact ⟨0, by omega, rfl⟩
            case round =>
              obtain ⟨q, hq, rfl⟩ := hrel
              by_cases hlq : q < 1 + dn
              · obtain ⟨b, off, ys, A', c', rfl, _, hyq, hcell, hrdy⟩ := HRR4.out.at_ (by rw [HNN.out]; exact hlq)
                have HNQ := Lib.hid (HND.out ys (List.mem_of_getElem? hyq))
                have hmy : ys.length ≤ 1048577 := Nat.le_trans (Sp.mem_total yss ys (List.mem_of_getElem? hyq)) (by have := HTL.out; omega)
                have HRY := Lib.hid hrdy; clear hrdy hyq
                generalize hnys : ys.length = nys at *
                go_wp2_with fail
                go_loop [54] (fun i => ∃ r : Nat, r ≤ nys ∧ i = .int .i64 r) (fun i => nys - (intOf i).toNat)
                case atStart => exact ⟨0, by omega, rfl⟩
                case round =>
                  obtain ⟨r, hr, rfl⟩ := hrel
                  by_cases hlr : r < nys
                  · obtain ⟨b', off', u, rfl, _, hu, hcu⟩ := ints_cell HRY.out hlr
                    have hu46 : (u == 46) = false := by rw [beq_eq_false_iff_ne]; exact HNQ.out u (List.mem_of_getElem? hu)
                    clear hu
                    go_wp2
                    go_round
                    case rel => exact ⟨r + 1, by omega, by go_num⟩
                    case measure => simp [intOf]; omega
                  · go_wp2
                    go_round
                    case rel => exact ⟨q + 1, by omega, by go_num⟩
                    case measure => simp [intOf]; omega
              · go_wp2
                go_roundw
                case rel => exact ⟨1, by omega, by rfl, HB4.out⟩
                case measure => simp [intOf]

      · have hlen : (pts x1).length ≤ 1048576 := by omega
        have hrd : Rd wr wr.heap.size 1 A1 (pts x1).length (ints (pts x1)) := (HP.out.below HB.out).more HB.out.size
        have HRD := Lib.hid hrd; clear hrd
        have hsz := HB.out.size
        go_wp2_with fail
        refine (labels_any A1 c1' (pts x1) _ HRD.out (by omega)).mono ?_
        rintro e w2 ⟨A2, c2, vs, rfl, ho2, hrw2, hb2⟩
        have HRR := Lib.hid (rdr_of ho2 hrw2)
        have HX2 := Lib.hid ((HRD.out.below hb2))
        have hsz2 := hb2.size
        have HB2 := Lib.hid (HB.out.trans (hb2.mono hsz))
        clear ho2 hrw2 hb2
        have hll := Sp.labels_length (pts x1)
        have hdl := Sp.dots_le (pts x1)
        have htl := Sp.total_labels (pts x1)
        have HJL := Lib.hid (Sp.join_labels (pts x1))
        have HND := Lib.hid (Sp.nodot (pts x1))
        generalize hys : Sp.labels (pts x1) = yss at *
        clear hys
        go_wp2_with fail
        go_loop [8, 26] (fun n i => ∃ j : Nat, j ≤ (pts x1).length ∧ i = .int .i64 j ∧ n = .int .i64 (1 + (Sp.dots ((pts x1).take j) : Nat))) (fun _ i => (pts x1).length - (intOf i).toNat)
        case atStart => exact ⟨0, by omega, rfl, rfl⟩
        case round =>
          obtain ⟨j, hj, rfl, rfl⟩ := hrel
          have hdj : Sp.dots ((pts x1).take j) ≤ j := Nat.le_trans (Sp.dots_le _) (by simp; omega)
          by_cases hlt : j < (pts x1).length
          · obtain ⟨b, off, u, rfl, _, hu, hcu⟩ := ints_cell HX2.out hlt
            have hts : (pts x1).take (j + 1) = (pts x1).take j ++ [u] := by
              obtain ⟨hk', rfl⟩ := List.getElem?_eq_some_iff.1 hu
              rw [List.take_succ_eq_append_getElem hk']
            have hds : Sp.dots ((pts x1).take (j + 1)) = Sp.dots ((pts x1).take j) + if u = 46 then 1 else 0 := by rw [hts, Sp.dots_snoc]
            have HDS := Lib.hid hds; clear hds hts hu
            generalize Sp.dots ((pts x1).take j) = dj at *
            by_cases h46 : u = 46
            · have hb46 : (u == 46) = true := by rw [beq_iff_eq]; exact h46
              have hif : (if u = 46 then 1 else 0) = 1 := if_pos h46
              rw [hif] at HDS
              clear h46 hif
              go_wp2
              go_round
              case rel => exact ⟨j + 1, by omega, by go_num, by rw [HDS.out]; go_num⟩
              case measure => simp [intOf]; omega
            · have hb46 : (u == 46) = false := by rw [beq_eq_false_iff_ne]; exact h46
              have hif : (if u = 46 then 1 else 0) = 0 := if_neg h46
              rw [hif] at HDS
              clear h46 hif
              go_wp2
              go_round
              case rel => exact ⟨j + 1, by omega, by go_num, by rw [HDS.out]; rfl⟩
              case measure => simp [intOf]; omega
          · have hje : (pts x1).take j = (pts x1) := List.take_of_length_le (by omega)
            have HJE := Lib.hid hje; clear hje
            rw [HJE.out]
            have HLL := Lib.hid hll; clear hll
            generalize Sp.dots (pts x1) = dn at *
            have hny : yss.length ≤ 1048577 := by rw [HLL.out]; omega
            have hjn := join_any A2 c2 yss _ w2 HRR.out (Nat.le_refl _) (by omega) (by unfold maxLen; omega)
            rw [HJL.out] at hjn
            have HJN := Lib.hid hjn; clear hjn
            generalize hnn : yss.length = ny at *
            have hny1 : ny = 1 + dn := HLL.out
            clear HLL
            subst hny1
            have HNN := Lib.hid hnn; clear hnn
            have HTL := Lib.hid htl
            clear HJE htl
            go_wp2_with fail
            refine HJN.out.mono ?_
            rintro e w3 ⟨A3, c3, rfl, ho3, hb3⟩
            have HB3 := Lib.hid (HB2.out.trans (hb3.mono (by omega)))
            have HRR3 := Lib.hid (HRR.out.below hb3)
            have HX3 := Lib.hid (HX2.out.below (hb3.mono (by omega)))
            have HY3 := Lib.hid (Rd.of_own ho3)
            have hsz3 := hb3.size
            clear ho3 hb3 HJN
            go_wp2_with fail
            refine (same_ok _ _ _ _ _ _ (pts x1) (pts x1) w3.heap.size _ HY3.out (HX3.out.more (by omega)) (by unfold maxLen; omega) (by unfold maxLen; omega) rfl).mono ?_
            rintro e w4 ⟨rfl, m4, rfl⟩
            have HB4 := Lib.hid (below_drewN HB3.out m4)
            have HRR4 := Lib.hid (HRR3.out.drewN m4)
            have hsz4 : w3.heap.size = (w3.drewN m4).heap.size := rfl
            generalize w3.drewN m4 = w4 at *
            go_wp2_with fail
            go_loop [48] (fun i => ∃ q : Nat, q ≤ 1 + dn ∧ i = .int .i64 q) (fun i => (1 + dn) - (intOf i).toNat)
            case atStart => exact ⟨0, by omega, rfl⟩
            case round =>
              obtain ⟨q, hq, rfl⟩ := hrel
              by_cases hlq : q < 1 + dn
              · obtain ⟨b, off, ys, A', c', rfl, _, hyq, hcell, hrdy⟩ := HRR4.out.at_ (by rw [HNN.out]; exact hlq)
                have HNQ := Lib.hid (HND.out ys (List.mem_of_getElem? hyq))
                have hmy : ys.length ≤ 1048577 := Nat.le_trans (Sp.mem_total yss ys (List.mem_of_getElem? hyq)) (by have := HTL.out; omega)
                have HRY := Lib.hid hrdy; clear hrdy hyq
                generalize hnys : ys.length = nys at *
                go_wp2_with fail
                go_loop [54] (fun i => ∃ r : Nat, r ≤ nys ∧ i = .int .i64 r) (fun i => nys - (intOf i).toNat)
                case atStart => exact ⟨0, by omega, rfl⟩
                case round =>
                  obtain ⟨r, hr, rfl⟩ := hrel
                  by_cases hlr : r < nys
                  · obtain ⟨b', off', u, rfl, _, hu, hcu⟩ := ints_cell HRY.out hlr
                    have hu46 : (u == 46) = false := by rw [beq_eq_false_iff_ne]; exact HNQ.out u (List.mem_of_getElem? hu)
                    clear hu
                    go_wp2
                    go_round
                    case rel => exact ⟨r + 1, by omega, by go_num⟩
                    case measure => simp [intOf]; omega
                  · go_wp2
                    go_round
                    case rel => exact ⟨q + 1, by omega, by go_num⟩
                    case measure => simp [intOf]; omega
              · go_wp2
                go_roundw
                case rel => exact ⟨2, by omega, by rfl, HB4.out⟩
                case measure => simp [intOf]
    · clear HP HR
      go_wp2_with fail
      refine (awake12_any _).mono ?_
      rintro e w5 ⟨rfl, hb5⟩
      have HB5 := Lib.hid ((HB1.out.trans (HB.out.mono hsz1)).trans (hb5.mono (by have := HB.out.size; omega)))
      go_wp2
      go_ret
      exact ⟨rfl, HB5.out⟩
end Go.Proofs.Ytddlafcnfdohnaa
