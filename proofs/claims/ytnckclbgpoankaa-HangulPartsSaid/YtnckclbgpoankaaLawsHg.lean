/- The walks of the five laws on Hangul syllables. -/
import Derived.Test.YtnckclbgpoankaaHangulD
import Derived.Test.YtnckclbgpoankaaSame
import Derived.Test.YtnckclbgpoankaaAppend
import Derived.Deep.RegionWith
namespace Go.Proofs.Ytnckclbgpoankaa
open Go Go.RowKit
set_option linter.unusedVariables false

set_option maxHeartbeats 400000 in
theorem awake5_any (w : World) : Calls Try.prog 31 #[] w fun e w' => e = .returned (.bool true) ∧ Below w.heap.size w w' := by
  have d1 : Hg.dec 44033 = [4352, 4449, 4520] := by decide +kernel
  have c1 : Hg.comp 4352 4449 = 44032 := by decide +kernel
  have c2 : Hg.compOk 4352 4449 = true := by decide +kernel
  go_enter Try.func31, Try.ntmps31
  go_wp2_with fail
  refine (hcomp_any _ _ _).mono ?_
  rintro e w' ⟨rfl, rfl⟩
  rw [c1, c2]
  go_wp2_with fail
  refine (hdec_any _ _).mono ?_
  rw [d1]
  rintro e w1 ⟨A, c, rfl, hown, hb⟩
  go_wp2_with fail
  have hr1 : Rd (w1.alloc (.cells #[.int .i64 4352, .int .i64 4449, .int .i64 4520] 3)) (w1.heap.size + 1) 1 A 3 (ints [4352, 4449, 4520]) := ((Rd.of_own hown).alloc (Nat.le_refl _) _).more (by omega)
  have hr2 : Rd (w1.alloc (.cells #[.int .i64 4352, .int .i64 4449, .int .i64 4520] 3)) (w1.heap.size + 1) 1 (some ⟨w1.heap.size, 0, none⟩) 3 (ints [4352, 4449, 4520]) := by
    have := Rd.of_own (own_built w1 0 3 #[.int .i64 4352, .int .i64 4449, .int .i64 4520] 3 rfl (by decide) (Nat.zero_le _))
    simpa [ints] using this
  have HB := Lib.hid ((hb.alloc hb.size (.cells #[.int .i64 4352, .int .i64 4449, .int .i64 4520] 3)))
  clear hown hb c1 c2 d1
  refine (same_ok _ _ _ _ _ _ _ _ _ _ hr1 hr2 (by decide) (by decide) rfl).mono ?_
  rintro e w2 ⟨rfl, m, rfl⟩
  clear hr1 hr2
  go_wp2
  go_ret
  exact ⟨rfl, below_drewN HB.out _⟩

/-- A truth value that is returned: whatever its form. -/
theorem ret_bool {a b : Bool} (h : a = b) : Ending.returned (.bool a) = .returned (.bool b) := by rw [h]

set_option maxHeartbeats 400000 in
theorem walk_HangulParts (a0 a1 a2 : Int) (w : World) (w0 : (Lit.int .i64 a0).wf = true) (w1 : (Lit.int .i64 a1).wf = true) (w2 : (Lit.int .i64 a2).wf = true) :
    Calls Try.prog 11 #[.int .i64 a0, .int .i64 a1, .int .i64 a2] w fun e w' => e = .returned (.bool true) ∧ Below w.heap.size w w' := by
  clear w0 w1 w2
  have i0 := Kp.pick_lo a0 19 (by omega); have i1 := Kp.pick_hi a0 19 (by omega)
  have j0 := Kp.pick_lo a1 21 (by omega); have j1 := Kp.pick_hi a1 21 (by omega)
  have k0 := Kp.pick_lo a2 28 (by omega); have k1 := Kp.pick_hi a2 28 (by omega)
  obtain ⟨s1, s2, s3, s4⟩ := Hg.parts_of (Kp.pick a0 19) (Kp.pick a1 21) (Kp.pick a2 28) i0 i1 j0 j1 k0 k1
  have S1 := Lib.hid s1; have S2 := Lib.hid s2; have S3 := Lib.hid s3; have S4 := Lib.hid s4
  clear s1 s2 s3 s4
  go_enter Try.func11, Try.ntmps11
  go_wp2_with fail
  refine (pick_any _ _ (by omega) (by omega) _).mono ?_
  rintro e w' ⟨rfl, rfl⟩
  go_wp2_with fail
  refine (pick_any _ _ (by omega) (by omega) _).mono ?_
  rintro e w' ⟨rfl, rfl⟩
  go_wp2_with fail
  refine (pick_any _ _ (by omega) (by omega) _).mono ?_
  rintro e w' ⟨rfl, rfl⟩
  go_wp2_with fail
  refine (hparts_any _ _).mono ?_
  rintro e w' ⟨rfl, rfl⟩
  rw [S1.out, S2.out, S3.out, S4.out]
  go_wp2_with fail
  refine (awake5_any _).mono ?_
  rintro e w' ⟨rfl, hb⟩
  go_wp2
  go_ret
  exact ⟨rfl, hb⟩

set_option maxHeartbeats 1000000 in
theorem walk_HangulOne (a0 : Int) (w : World) (w0 : (Lit.int .i64 a0).wf = true) :
    Calls Try.prog 8 #[.int .i64 a0] w fun e w' => e = .returned (.bool true) ∧ Below w.heap.size w w' := by
  clear w0
  go_enter Try.func8, Try.ntmps8
  go_wp2_with fail
  refine (near_any _ _).mono ?_
  rintro e w' ⟨c, rfl, rfl⟩
  go_wp2_with fail
  refine (hparts_any _ _).mono ?_
  rintro e w' ⟨rfl, rfl⟩
  go_wp2_with fail
  refine (rparts_any _ _).mono ?_
  rintro e w' ⟨rfl, rfl⟩
  go_wp2_with fail
  refine (awake5_any _).mono ?_
  rintro e w1 ⟨rfl, hb1⟩
  have HB1 := Lib.hid hb1; clear hb1
  go_wp2_with fail
  refine (hkind_any _ _).mono ?_
  rintro e w' ⟨rfl, rfl⟩
  go_wp2_with fail
  refine (rkind_any _ _).mono ?_
  rintro e w' ⟨rfl, rfl⟩
  go_wp2_with fail
  refine (hkind_any _ _).mono ?_
  rintro e w' ⟨rfl, rfl⟩
  go_wp2_with fail
  refine (rkind_any _ _).mono ?_
  rintro e w' ⟨rfl, rfl⟩
  go_wp2_with fail
  refine (hdec_any _ _).mono ?_
  rintro e w2 ⟨A, d, rfl, hown2, hb2⟩
  have HB2 := Lib.hid (below_step HB1.out hb2)
  have HO2 := Lib.hid hown2
  clear hown2 hb2
  go_wp2_with fail
  refine (rdec_any _ _).mono ?_
  rintro e w3 ⟨A', d', rfl, hown3, hb3⟩
  have HB3 := Lib.hid (below_step HB2.out hb3)
  have hm : (Hg.dec c).length ≤ maxLen := by have := Hg.dec_len c; unfold maxLen; omega
  have R2 := Lib.hid ((((Rd.of_own HO2.out).below hb3)).more hb3.size)
  have R3 := Lib.hid (Rd.of_own hown3)
  have HM := Lib.hid hm
  clear hown3 hb3 hm
  go_wp2_with fail
  refine (same_ok _ _ _ _ _ _ _ _ _ _ R2.out R3.out HM.out HM.out rfl).mono ?_
  rintro e w4 ⟨rfl, m, rfl⟩
  have HB4 := Lib.hid (below_drewN HB3.out m)
  go_wp2_with fail
  refine (hdec_any _ _).mono ?_
  rintro e w5 ⟨A5, d5, rfl, _, hb5⟩
  have HB5 := Lib.hid (below_step HB4.out hb5)
  clear hb5
  go_wp2_with fail
  refine (rdec_any _ _).mono ?_
  rintro e w6 ⟨A6, d6, rfl, _, hb6⟩
  have HB6 := Lib.hid (below_step HB5.out hb6)
  clear hb6
  go_wp2
  go_ret
  exact ⟨rfl, HB6.out⟩

set_option maxHeartbeats 1000000 in
theorem walk_HangulCompose (a0 a1 : Int) (w : World) (w0 : (Lit.int .i64 a0).wf = true) (w1 : (Lit.int .i64 a1).wf = true) :
    Calls Try.prog 9 #[.int .i64 a0, .int .i64 a1] w fun e w' => e = .returned (.bool true) ∧ Below w.heap.size w w' := by
  clear w0 w1
  by_cases hp : Kp.pick a1 2 = 0
  · have hb0 : (Kp.pick a1 2 == 0) = true := by rw [beq_iff_eq]; exact hp
    clear hp
    have l0 := Kp.pick_lo (wrap64 (a1.tdiv 2)) 30 (by omega)
    have l1 := Kp.pick_hi (wrap64 (a1.tdiv 2)) 30 (by omega)
    go_enter Try.func9, Try.ntmps9
    go_wp2_with fail
    refine (near_any _ _).mono ?_
    rintro e w' ⟨a, rfl, rfl⟩
    go_wp2_with fail
    refine (near_any _ _).mono ?_
    rintro e w' ⟨b, rfl, rfl⟩
    go_wp2_with fail
    refine (pick_any _ _ (by omega) (by omega) _).mono ?_
    rintro e w' ⟨rfl, rfl⟩
    go_wp2_with fail
    refine (pick_any _ _ (by omega) (by omega) _).mono ?_
    rintro e w' ⟨rfl, rfl⟩
    go_wp2_with fail
    refine (hcomp_any _ _ _).mono ?_
    rintro e w' ⟨rfl, rfl⟩
    go_wp2_with fail
    refine (rcomp_any _ _ _).mono ?_
    rintro e w' ⟨rfl, rfl⟩
    go_wp2_with fail
    refine (hcomp_any _ _ _).mono ?_
    rintro e w' ⟨rfl, rfl⟩
    go_wp2_with fail
    refine (rcomp_any _ _ _).mono ?_
    rintro e w' ⟨rfl, rfl⟩
    go_wp2_with fail
    refine (awake5_any _).mono ?_
    rintro e w1 ⟨rfl, hb1⟩
    have HB1 := Lib.hid hb1; clear hb1
    go_wp2
    go_ret
    exact ⟨rfl, HB1.out⟩
  · have hb0 : (Kp.pick a1 2 == 0) = false := by rw [beq_eq_false_iff_ne]; exact hp
    clear hp
    go_enter Try.func9, Try.ntmps9
    go_wp2_with fail
    refine (near_any _ _).mono ?_
    rintro e w' ⟨a, rfl, rfl⟩
    go_wp2_with fail
    refine (near_any _ _).mono ?_
    rintro e w' ⟨b, rfl, rfl⟩
    go_wp2_with fail
    refine (pick_any _ _ (by omega) (by omega) _).mono ?_
    rintro e w' ⟨rfl, rfl⟩
    go_wp2_with fail
    refine (hcomp_any _ _ _).mono ?_
    rintro e w' ⟨rfl, rfl⟩
    go_wp2_with fail
    refine (rcomp_any _ _ _).mono ?_
    rintro e w' ⟨rfl, rfl⟩
    go_wp2_with fail
    refine (hcomp_any _ _ _).mono ?_
    rintro e w' ⟨rfl, rfl⟩
    go_wp2_with fail
    refine (rcomp_any _ _ _).mono ?_
    rintro e w' ⟨rfl, rfl⟩
    go_wp2_with fail
    refine (awake5_any _).mono ?_
    rintro e w1 ⟨rfl, hb1⟩
    have HB1 := Lib.hid hb1; clear hb1
    go_wp2
    go_ret
    exact ⟨rfl, HB1.out⟩

set_option maxHeartbeats 1000000 in
theorem walk_HangulBack (a0 : Int) (w : World) (w0 : (Lit.int .i64 a0).wf = true) :
    Calls Try.prog 10 #[.int .i64 a0] w fun e w' => e = .returned (.bool true) ∧ Below w.heap.size w w' := by
  clear w0
  have l0 := Kp.pick_lo a0 11172 (by omega)
  have l1 := Kp.pick_hi a0 11172 (by omega)
  generalize hc : 44032 + Kp.pick a0 11172 = c
  have HC := Lib.hid hc; clear hc
  have hs : Hg.syl c = true := by rw [Hg.syl_iff]; have := HC.out; omega
  have HS := Lib.hid hs; clear hs
  by_cases hk : Hg.pK c = 0
  · have e1 : Hg.dec c = [4352 + Hg.pI c, 4449 + Hg.pJ c] := by unfold Hg.dec; rw [if_pos HS.out, if_pos hk]
    obtain ⟨b1, b2⟩ := Hg.back2 c HS.out hk
    have HE := Lib.hid e1; have HB1 := Lib.hid b1; have HB2 := Lib.hid b2
    clear e1 b1 b2 hk
    go_enter Try.func10, Try.ntmps10
    go_wp2_with fail
    refine (pick_any _ _ (by omega) (by omega) _).mono ?_
    rintro e w' ⟨rfl, rfl⟩
    go_wp2_with fail
    rw [HC.out]
    refine (hdec_any _ _).mono ?_
    rw [HE.out]
    rintro e w1 ⟨A, d, rfl, hown, hb⟩
    have HB := Lib.hid hb; clear hb
    obtain ⟨g, rfl, _, _, _, hcell, _⟩ := own_at hown (by simp)
    have c0 := hcell 0 _ rfl
    have c1 := hcell 1 _ rfl
    clear hcell hown
    generalize 4352 + Hg.pI c = x0 at *
    generalize 4449 + Hg.pJ c = x1 at *
    have k0 : Hg.compOk x0 x1 = true := by unfold Hg.compOk; rw [HB1.out]; rfl
    go_wp2_with fail
    go_quiet ((go_at_call 37; exact quiet_same (hcomp_any _ _ _)))
    rw [k0, HB2.out]
    clear k0
    go_wp2_with fail
    refine (awake5_any _).mono ?_
    rintro e w2 ⟨rfl, hb2⟩
    have HB3 := Lib.hid (below_step (below_drewN HB.out _) hb2)
    clear hb2
    go_wp2
    go_ret
    exact ⟨rfl, HB3.out⟩
  · have e1 : Hg.dec c = [4352 + Hg.pI c, 4449 + Hg.pJ c, 4519 + Hg.pK c] := by unfold Hg.dec; rw [if_pos HS.out, if_neg hk]
    obtain ⟨b1, b2, b3, b4⟩ := Hg.back3 c HS.out hk
    have HE := Lib.hid e1; have HB1 := Lib.hid b1; have HB2 := Lib.hid b2; have HB4 := Lib.hid b4
    clear e1 b1 b2 b3 b4 hk
    go_enter Try.func10, Try.ntmps10
    go_wp2_with fail
    refine (pick_any _ _ (by omega) (by omega) _).mono ?_
    rintro e w' ⟨rfl, rfl⟩
    go_wp2_with fail
    rw [HC.out]
    refine (hdec_any _ _).mono ?_
    rw [HE.out]
    rintro e w1 ⟨A, d, rfl, hown, hb⟩
    have HB := Lib.hid hb; clear hb
    obtain ⟨g, rfl, _, _, _, hcell, _⟩ := own_at hown (by simp)
    have c0 := hcell 0 _ rfl
    have c1 := hcell 1 _ rfl
    have c2 := hcell 2 _ rfl
    clear hcell hown
    generalize 4352 + Hg.pI c = x0 at *
    generalize 4449 + Hg.pJ c = x1 at *
    generalize 4519 + Hg.pK c = x2 at *
    have k0 : Hg.compOk x0 x1 = true := by unfold Hg.compOk; rw [HB1.out]; rfl
    have k1 : Hg.compOk (Hg.comp x0 x1) x2 = true := by unfold Hg.compOk; rw [HB2.out]; simp
    have K1 := Lib.hid k1; clear k1
    go_wp2_with fail
    go_quiet ((go_at_call 37; exact quiet_same (hcomp_any _ _ _)))
    rw [k0]
    clear k0
    go_wp2_with fail
    refine (hcomp_any _ _ _).mono ?_
    rw [K1.out, HB4.out]
    rintro e w' ⟨rfl, rfl⟩
    go_wp2_with fail
    refine (awake5_any _).mono ?_
    rintro e w2 ⟨rfl, hb2⟩
    have HB3 := Lib.hid (below_step (below_drewN HB.out _) hb2)
    clear hb2
    go_wp2
    go_ret
    exact ⟨rfl, HB3.out⟩

def flatL (a : Int) : List Int := if Hg.dec a = [] then [a] else Hg.dec a
set_option maxHeartbeats 400000 in
theorem flat_any (a : Int) (w : World) : Calls Try.prog 39 #[.int .i64 a] w (RetI 3 (flatL a) w) := by
  by_cases h : Hg.dec a = []
  · have e1 : flatL a = [a] := by unfold flatL; rw [if_pos h]
    have HE := Lib.hid e1; have HH := Lib.hid h; clear e1 h
    go_enter Try.func39, Try.ntmps39
    go_wp2_with fail
    refine (rdec_any _ _).mono ?_
    rw [HH.out]
    rintro e w1 ⟨A, d, rfl, _, hb⟩
    have HB := Lib.hid hb; clear hb
    go_wp2
    go_ret
    rw [HE.out]
    refine ⟨_, _, rfl, ?_, HB.out.alloc HB.out.size _⟩
    exact own_built w1 _ 3 #[.int .i64 a] 1 rfl (by decide) HB.out.size
  · have e1 : flatL a = Hg.dec a := by unfold flatL; rw [if_neg h]
    have hl : 0 < (Hg.dec a).length := List.length_pos_iff.2 h
    have HE := Lib.hid e1; clear e1 h
    go_enter Try.func39, Try.ntmps39
    go_wp2_with fail
    refine (rdec_any _ _).mono ?_
    rintro e w1 ⟨A, d, rfl, ho, hb⟩
    have HB := Lib.hid hb; have HO := Lib.hid ho; clear hb ho
    go_wp2
    go_ret
    rw [HE.out]
    exact ⟨_, _, rfl, HO.out, HB.out⟩

theorem flat_len (a : Int) : (flatL a).length ≤ 3 := by
  unfold flatL; split
  · simp
  · exact Hg.dec_len a

set_option maxHeartbeats 2000000 in
theorem walk_HangulClosed (a0 a1 : Int) (w : World) (w0 : (Lit.int .i64 a0).wf = true) (w1 : (Lit.int .i64 a1).wf = true) :
    Calls Try.prog 12 #[.int .i64 a0, .int .i64 a1] w fun e w' => e = .returned (.bool true) ∧ Below w.heap.size w w' := by
  clear w0 w1
  go_enter Try.func12, Try.ntmps12
  go_wp2_with fail
  refine (near_any _ _).mono ?_
  rintro e w' ⟨a, rfl, rfl⟩
  go_wp2_with fail
  refine (near_any _ _).mono ?_
  rintro e w' ⟨b, rfl, rfl⟩
  go_wp2_with fail
  refine (hcomp_any _ _ _).mono ?_
  have FL := Lib.hid (flat_len a)
  by_cases h1 : Hg.lv a b = true
  · obtain ⟨s1, s2, s3, s4, s5, s6⟩ := Hg.closed1 a b h1
    have e2 : Hg.compOk a b = true := by unfold Hg.compOk; rw [h1]; rfl
    have e3 : flatL a = [a] := by unfold flatL; rw [if_pos s6]
    have KC := Lib.hid s2; have KA := Lib.hid s3
    have EQ : Hid (Hg.dec (Hg.comp a b) = flatL a ++ [b]) := Lib.hid (by rw [s5, e3]; rfl)
    rw [e2]
    clear s1 s2 s3 s4 s5 s6 e2 e3 h1
    rintro e w' ⟨rfl, rfl⟩
    go_wp2_with fail
    refine (hkind_any _ _).mono ?_
    rw [KC.out]
    rintro e w' ⟨rfl, rfl⟩
    go_wp2_with fail
    refine (awake5_any _).mono ?_
    rintro e w1 ⟨rfl, hb1⟩
    have HB1 := Lib.hid hb1; clear hb1
    go_wp2_with fail
    refine (hkind_any _ _).mono ?_
    rw [KA.out]
    rintro e w' ⟨rfl, rfl⟩
    go_wp2_with fail
    refine (hdec_any _ _).mono ?_
    rintro e w2 ⟨A2, d2, rfl, ho2, hb2⟩
    have HB2 := Lib.hid (below_step HB1.out hb2)
    have HR2 := Lib.hid (Rd.of_own ho2)
    clear ho2 hb2
    go_wp2_with fail
    refine (flat_any _ _).mono ?_
    rintro e w3 ⟨A3, d3, rfl, ho3, hb3⟩
    have HB3 := Lib.hid (below_step HB2.out hb3)
    have HR3 := Lib.hid (HR2.out.below hb3)
    have HS3 := Lib.hid hb3.size
    have HO3 := Lib.hid (Rd.of_own ho3)
    clear ho3 hb3
    have hfl := FL.out
    go_wp2_with (at_builtin; refine app_int ?hw1 _ _ rfl (base := w3.heap.size) (n := 0) (xs := []) rfl (World.ownsRow_nil _ _ _ _) rfl HO3.out ?hl1 (Nat.le_refl _) ?_)
    try (case hw1 => rfl)
    case hl1 => omega
    intro A4 c4 w4 ho4 hg4 _
    have HB4 := Lib.hid (HB3.out.grown hg4 HB3.out.size (by simp [Value.ownBlock]))
    have HW4 := Lib.hid ((Below.refl w3.heap.size w3).grown hg4 (Nat.le_refl _) (by simp [Value.ownBlock]))
    have HO4 := Lib.hid ho4
    clear ho4 hg4
    have hs4 := HW4.out.size
    go_wp2_with (at_builtin; refine app_int ?hw2 _ _ rfl (base := w3.heap.size) (n := (flatL a).length) rfl (HO4.out.alloc _) rfl (rd_one w4 b) ?hl2 ?hs2 ?_)
    try (case hw2 => rfl)
    case hl2 => omega
    case hs2 => simp; omega
    intro A5 c5 w5 ho5 hg5 hat
    have hsz5 := hg5.size
    have HB5 := Lib.hid ((HB4.out.alloc HB4.out.size (.cells #[.int .i64 b] 3)).grown hg5 (by simp; have := HB4.out.size; omega) (fun k hk => by have := ((HO4.out.alloc (.cells #[.int .i64 b] 3)).lt k hk).1; have := HB3.out.size; omega))
    have HW5 := Lib.hid ((HW4.out.alloc HW4.out.size (.cells #[.int .i64 b] 3)).grown hg5 (by simp; omega) (fun k hk => ((HO4.out.alloc (.cells #[.int .i64 b] 3)).lt k hk).1))
    have HO5 := Lib.hid (Rd.of_own ho5)
    clear ho5 hg5 hat hsz5
    have hle := HW5.out.size
    have R2 := Lib.hid (((HR3.out.more HS3.out).below HW5.out).more hle)
    clear hle hs4
    go_wp2_with fail
    refine (same_ok _ _ _ _ _ _ _ _ _ _ R2.out HO5.out (by have := Hg.dec_len (Hg.comp a b); unfold maxLen; omega) (by unfold maxLen; omega) EQ.out).mono ?_
    rintro e w6 ⟨rfl, m, rfl⟩
    go_wp2
    go_ret
    exact ⟨rfl, below_drewN HB5.out _⟩

  · by_cases h2 : Hg.lvt a b = true
    · obtain ⟨s0, s1, s2, s3, s4, s5, s6⟩ := Hg.closed2 a b h2
      have e2 : Hg.compOk a b = true := by unfold Hg.compOk; rw [h2]; simp
      have e3 : flatL a = Hg.dec a := by unfold flatL; rw [if_neg (by intro h; rw [h] at s6; cases s6)]
      have KC := Lib.hid s2; have KA := Lib.hid s3
      have EQ : Hid (Hg.dec (Hg.comp a b) = flatL a ++ [b]) := Lib.hid (by rw [s5, e3])
      rw [e2]
      clear s0 s1 s2 s3 s4 s5 s6 e2 e3 h1 h2
      rintro e w' ⟨rfl, rfl⟩
      go_wp2_with fail
      refine (hkind_any _ _).mono ?_
      rw [KC.out]
      rintro e w' ⟨rfl, rfl⟩
      go_wp2_with fail
      refine (awake5_any _).mono ?_
      rintro e w1 ⟨rfl, hb1⟩
      have HB1 := Lib.hid hb1; clear hb1
      go_wp2_with fail
      refine (hkind_any _ _).mono ?_
      rw [KA.out]
      rintro e w' ⟨rfl, rfl⟩
      go_wp2_with fail
      refine (hdec_any _ _).mono ?_
      rintro e w2 ⟨A2, d2, rfl, ho2, hb2⟩
      have HB2 := Lib.hid (below_step HB1.out hb2)
      have HR2 := Lib.hid (Rd.of_own ho2)
      clear ho2 hb2
      go_wp2_with fail
      refine (flat_any _ _).mono ?_
      rintro e w3 ⟨A3, d3, rfl, ho3, hb3⟩
      have HB3 := Lib.hid (below_step HB2.out hb3)
      have HR3 := Lib.hid (HR2.out.below hb3)
      have HS3 := Lib.hid hb3.size
      have HO3 := Lib.hid (Rd.of_own ho3)
      clear ho3 hb3
      have hfl := FL.out
      go_wp2_with (at_builtin; refine app_int ?hw1b _ _ rfl (base := w3.heap.size) (n := 0) (xs := []) rfl (World.ownsRow_nil _ _ _ _) rfl HO3.out ?hl1b (Nat.le_refl _) ?_)
      try (case hw1b => rfl)
      case hl1b => omega
      intro A4 c4 w4 ho4 hg4 _
      have HB4 := Lib.hid (HB3.out.grown hg4 HB3.out.size (by simp [Value.ownBlock]))
      have HW4 := Lib.hid ((Below.refl w3.heap.size w3).grown hg4 (Nat.le_refl _) (by simp [Value.ownBlock]))
      have HO4 := Lib.hid ho4
      clear ho4 hg4
      have hs4 := HW4.out.size
      go_wp2_with (at_builtin; refine app_int ?hw2b _ _ rfl (base := w3.heap.size) (n := (flatL a).length) rfl (HO4.out.alloc _) rfl (rd_one w4 b) ?hl2b ?hs2b ?_)
      try (case hw2b => rfl)
      case hl2b => omega
      case hs2b => simp; omega
      intro A5 c5 w5 ho5 hg5 hat
      have hsz5 := hg5.size
      have HB5 := Lib.hid ((HB4.out.alloc HB4.out.size (.cells #[.int .i64 b] 3)).grown hg5 (by simp; have := HB4.out.size; omega) (fun k hk => by have := ((HO4.out.alloc (.cells #[.int .i64 b] 3)).lt k hk).1; have := HB3.out.size; omega))
      have HW5 := Lib.hid ((HW4.out.alloc HW4.out.size (.cells #[.int .i64 b] 3)).grown hg5 (by simp; omega) (fun k hk => ((HO4.out.alloc (.cells #[.int .i64 b] 3)).lt k hk).1))
      have HO5 := Lib.hid (Rd.of_own ho5)
      clear ho5 hg5 hat hsz5
      have hle := HW5.out.size
      have R2 := Lib.hid (((HR3.out.more HS3.out).below HW5.out).more hle)
      clear hle hs4
      go_wp2_with fail
      refine (same_ok _ _ _ _ _ _ _ _ _ _ R2.out HO5.out (by have := Hg.dec_len (Hg.comp a b); unfold maxLen; omega) (by unfold maxLen; omega) EQ.out).mono ?_
      rintro e w6 ⟨rfl, m, rfl⟩
      go_wp2
      go_ret
      exact ⟨rfl, below_drewN HB5.out _⟩

    · have h1' : Hg.lv a b = false := by simpa using h1
      have h2' : Hg.lvt a b = false := by simpa using h2
      have e1 : Hg.comp a b = 0 := by unfold Hg.comp; rw [if_neg h1, if_neg h2]
      have e2 : Hg.compOk a b = false := by unfold Hg.compOk; rw [h1', h2']; rfl
      rw [e1, e2]; clear e1 e2 h1 h2 h1' h2'
      rintro e w' ⟨rfl, rfl⟩
      go_wp2_with fail
      refine (awake5_any _).mono ?_
      rintro e w1 ⟨rfl, hb1⟩
      have HB1 := Lib.hid hb1; clear hb1
      go_wp2
      go_ret
      exact ⟨rfl, HB1.out⟩
end Go.Proofs.Ytnckclbgpoankaa
