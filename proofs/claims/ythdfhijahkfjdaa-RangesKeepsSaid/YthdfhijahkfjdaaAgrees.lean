/- The walks of the law's helpers awake and agrees. -/
import Derived.Test.YthdfhijahkfjdaaRgSame
namespace Go.Proofs.Ythdfhijahkfjdaa
open Go Go.RowKit
set_option linter.unusedVariables false

theorem RetSpE.get {r : List Rg.Sn × Int} {w w' : World} {e : Ending} (h : RetSpE r w e w') : ∃ A c, e = .returned (.tuple #[.slice A r.1.length c, .int .i64 r.2]) ∧ Rd w' w'.heap.size 3 A r.1.length (spans r.1) ∧ Below w.heap.size w w' := by
  obtain ⟨A, c, he, ho, hb⟩ := h
  exact ⟨A, c, he, Rd.of_own ho, hb⟩
theorem RetSp.get {r : List Rg.Sn} {w w' : World} {e : Ending} (h : RetSp r w e w') : ∃ A c, e = .returned (.slice A r.length c) ∧ Rd w' w'.heap.size 3 A r.length (spans r) ∧ Below w.heap.size w w' := by
  obtain ⟨A, c, he, ho, hb⟩ := h
  exact ⟨A, c, he, Rd.of_own ho, hb⟩
theorem Rg.full_len (l : List Rg.Sn) : (Rg.full l).1.length ≤ 256 := by
  unfold Rg.full; split
  · simp
  · show (Rg.mrg l).length ≤ 256; omega
theorem Rg.setP_len (l : List Rg.Sn) (x y v : Int) : (Rg.setP l x y v).1.length ≤ 256 := by
  unfold Rg.setP; split
  · exact Rg.full_len _
  · simp
theorem Rg.clearP_len (l : List Rg.Sn) (x y : Int) : (Rg.clearP l x y).1.length ≤ 256 := by
  unfold Rg.clearP; split
  · exact Rg.full_len _
  · simp
theorem Rg.overP_len (a b : List Rg.Sn) : (Rg.overP a b).1.length ≤ 256 := by
  unfold Rg.overP; split
  · exact Rg.full_len _
  · simp
theorem Rg.normP_len (l : List Rg.Sn) : (Rg.normP l).length ≤ 256 := by
  unfold Rg.normP; split
  next h => have := Rg.mrg_len l; have := (Rg.asc_of_valid h).2; omega
  next h => simp
theorem rd_three (w : World) (p q r : Rg.Sn) : Rd (w.alloc (.cells #[.int .i64 p.f, .int .i64 p.t, .int .i64 p.v, .int .i64 q.f, .int .i64 q.t, .int .i64 q.v, .int .i64 r.f, .int .i64 r.t, .int .i64 r.v] 25)) (w.heap.size + 1) 3 (some ⟨w.heap.size, 0, none⟩) 3 (spans [p, q, r]) := by
  refine ⟨rfl, fun _ => ⟨w.heap.size, 0, rfl, by omega, fun j u hu => ?_⟩⟩
  rw [(Bk.new w 25 _).cell, Nat.zero_add]
  simpa [spans, Rg.Sn.cells3] using hu

set_option maxHeartbeats 4000000 in
theorem awake2_any (w : World) : Calls Try.prog 12 #[] w fun e w' => e = .returned (.bool true) ∧ Below w.heap.size w w' := by
  have hL := rd_one_span_at (w := w) rfl ⟨10, 20, 1⟩
  have HB := Lib.hid ((Below.refl w.heap.size w).alloc (Nat.le_refl _) (.cells #[.int .i64 10, .int .i64 20, .int .i64 1] 25))
  have e1 : Rg.setP [⟨10, 20, 1⟩] 15 16 2 = ([⟨10, 14, 1⟩, ⟨15, 16, 2⟩, ⟨17, 20, 1⟩], 0) := by decide +kernel
  have e2 : Rg.setP [⟨10, 20, 1⟩] 15 16 1 = ([⟨10, 20, 1⟩], 0) := by decide +kernel
  have HL := Lib.hid hL; have HE1 := Lib.hid e1; have HE2 := Lib.hid e2
  clear hL e1 e2
  go_enter Try.func12, Try.ntmps12
  go_wp2_with fail
  have hw0 : (w.alloc (.cells #[.int .i64 10, .int .i64 20, .int .i64 1] 25)).heap.size = w.heap.size + 1 := by simp
  generalize hw : w.alloc (.cells #[.int .i64 10, .int .i64 20, .int .i64 1] 25) = w0 at *
  clear hw
  have hw1 : w.heap.size + 1 ≤ w0.heap.size := by omega
  clear hw0
  have hs1 := set_any (some ⟨w.heap.size, 0, none⟩) 1 [⟨10, 20, 1⟩] 15 16 2 (w.heap.size + 1) w0 HL.out (by omega) (by simp)
  rw [HE1.out] at hs1
  refine hs1.mono ?_
  clear hs1
  intro e w1 hret
  obtain ⟨A1, c1, rfl, hr, hb⟩ := hret.get
  have hsz1 := hb.size
  replace HL := Lib.hid (HL.out.below (hb.mono (by omega)))
  have HR1 := Lib.hid hr
  replace HB := Lib.hid (HB.out.trans (hb.mono (by omega)))
  clear hret hr hb
  go_wp2_with fail
  have hs2 := set_any (some ⟨w.heap.size, 0, none⟩) 1 [⟨10, 20, 1⟩] 15 16 1 (w.heap.size + 1) w1 HL.out (by omega) (by simp)
  rw [HE2.out] at hs2
  refine hs2.mono ?_
  clear hs2
  intro e w2 hret
  obtain ⟨A2, c2, rfl, hr, hb⟩ := hret.get
  have hsz2 := hb.size
  replace HL := Lib.hid (HL.out.below (hb.mono (by omega)))
  replace HR1 := Lib.hid (HR1.out.below hb)
  have HR2 := Lib.hid hr
  replace HB := Lib.hid (HB.out.trans (hb.mono (by omega)))
  clear hret hr hb
  go_wp2_with fail
  have h3 := rd_three w2 ⟨10, 14, 1⟩ ⟨15, 16, 2⟩ ⟨17, 20, 1⟩
  refine (samesp_any A1 (some ⟨w2.heap.size, 0, none⟩) 3 3 c1 3 [⟨10, 14, 1⟩, ⟨15, 16, 2⟩, ⟨17, 20, 1⟩] [⟨10, 14, 1⟩, ⟨15, 16, 2⟩, ⟨17, 20, 1⟩] (w2.heap.size + 1) _ ((HR1.out.alloc (by omega) _).more (by omega)) h3 rfl (by omega)).mono ?_
  rintro e w3 ⟨rfl, q3, rfl⟩
  clear h3
  go_wp2_with fail
  refine (samesp_any A2 (some ⟨w.heap.size, 0, none⟩) 1 1 c2 1 [⟨10, 20, 1⟩] [⟨10, 20, 1⟩] w2.heap.size _ ((HR2.out.alloc (Nat.le_refl _) _).drewN _) (((HL.out.more (by omega)).alloc (Nat.le_refl _) _).drewN _) rfl (by omega)).mono ?_
  rintro e w4 ⟨rfl, q4, rfl⟩
  have HF := Lib.hid (below_drewN (HB.out.alloc (show w.heap.size ≤ w2.heap.size by omega) (.cells #[.int .i64 10, .int .i64 14, .int .i64 1, .int .i64 15, .int .i64 16, .int .i64 2, .int .i64 17, .int .i64 20, .int .i64 1] 25)) (q3 + q4))
  go_wp2
  go_ret
  exact ⟨rfl, HF.out⟩


set_option maxRecDepth 100000 in
set_option maxHeartbeats 16000000 in
theorem agrees_any (A : Option Addr) (c : Nat) (a : List Rg.Sn) (A' : Option Addr) (c' : Nat) (b : List Rg.Sn) (lo hi x fr tu v : Int) (B : Nat) (w : World) (hr : Rd w B 3 A a.length (spans a)) (hr' : Rd w B 3 A' b.length (spans b)) (hBw : B ≤ w.heap.size)
    (hl : a.length ≤ 1000000000000000) (hl' : b.length ≤ 1000000000000000) :
    Calls Try.prog 23 #[.slice A a.length c, .slice A' b.length c', .int .i64 lo, .int .i64 hi, .int .i64 x, .int .i64 fr, .int .i64 tu, .int .i64 v] w fun e w' => e = .returned (.bool true) ∧ Below w.heap.size w w' := by
  have HRA := Lib.hid hr; have HRB := Lib.hid hr'; clear hr hr'
  have HB := Lib.hid (Below.refl w.heap.size w)
  have hs1 := Rg.setP_len a fr tu v
  have hs2 := Rg.clearP_len a fr tu
  have hs3 := Rg.overP_len a b
  have hs4 := Rg.normP_len a
  go_enter Try.func23, Try.ntmps23
  go_wp2_with fail
  refine (find_any A c a x B _ HRA.out (by omega) hl).mono ?_
  rintro e w1 ⟨rfl, hb⟩
  have hsz1 := hb.size
  replace HRA := Lib.hid (HRA.out.below (hb.mono (by omega)))
  replace HRB := Lib.hid (HRB.out.below (hb.mono (by omega)))
  replace HB := Lib.hid (below_step HB.out hb)
  clear hb
  go_wp2_with fail
  refine (rfind_any A c a x B _ HRA.out (by omega) hl).mono ?_
  rintro e w2 ⟨rfl, hb⟩
  have hsz2 := hb.size
  replace HRA := Lib.hid (HRA.out.below (hb.mono (by omega)))
  replace HRB := Lib.hid (HRB.out.below (hb.mono (by omega)))
  replace HB := Lib.hid (below_step HB.out hb)
  clear hb
  generalize (Rg.findP a x).1 = f1 at *
  generalize (Rg.findP a x).2 = f2 at *
  go_wp2_with fail
  refine (set_any A c a fr tu v B _ HRA.out (by omega) hl).mono ?_
  intro e w3 hret
  obtain ⟨AS1, cS1, rfl, hr, hb⟩ := hret.get
  clear hret
  have hsz3 := hb.size
  replace HRA := Lib.hid (HRA.out.below (hb.mono (by omega)))
  replace HRB := Lib.hid (HRB.out.below (hb.mono (by omega)))
  have HS1 := Lib.hid hr
  clear hr
  replace HB := Lib.hid (below_step HB.out hb)
  clear hb
  go_wp2_with fail
  refine (rset_any A c a fr tu v B _ HRA.out (by omega) hl).mono ?_
  intro e w4 hret
  obtain ⟨AS2, cS2, rfl, hr, hb⟩ := hret.get
  clear hret
  have hsz4 := hb.size
  replace HRA := Lib.hid (HRA.out.below (hb.mono (by omega)))
  replace HRB := Lib.hid (HRB.out.below (hb.mono (by omega)))
  replace HS1 := Lib.hid (HS1.out.below (hb.mono (by omega)))
  have HS2 := Lib.hid hr
  clear hr
  replace HB := Lib.hid (below_step HB.out hb)
  clear hb
  go_wp2_with fail
  refine (clear_any A c a fr tu B _ HRA.out (by omega) hl).mono ?_
  intro e w5 hret
  obtain ⟨AC1, cC1, rfl, hr, hb⟩ := hret.get
  clear hret
  have hsz5 := hb.size
  replace HRA := Lib.hid (HRA.out.below (hb.mono (by omega)))
  replace HRB := Lib.hid (HRB.out.below (hb.mono (by omega)))
  replace HS1 := Lib.hid (HS1.out.below (hb.mono (by omega)))
  replace HS2 := Lib.hid (HS2.out.below (hb.mono (by omega)))
  have HC1 := Lib.hid hr
  clear hr
  replace HB := Lib.hid (below_step HB.out hb)
  clear hb
  go_wp2_with fail
  refine (rclear_any A c a fr tu B _ HRA.out (by omega) hl).mono ?_
  intro e w6 hret
  obtain ⟨AC2, cC2, rfl, hr, hb⟩ := hret.get
  clear hret
  have hsz6 := hb.size
  replace HRA := Lib.hid (HRA.out.below (hb.mono (by omega)))
  replace HRB := Lib.hid (HRB.out.below (hb.mono (by omega)))
  replace HS1 := Lib.hid (HS1.out.below (hb.mono (by omega)))
  replace HS2 := Lib.hid (HS2.out.below (hb.mono (by omega)))
  replace HC1 := Lib.hid (HC1.out.below (hb.mono (by omega)))
  have HC2 := Lib.hid hr
  clear hr
  replace HB := Lib.hid (below_step HB.out hb)
  clear hb
  go_wp2_with fail
  refine (over_any A c a A' c' b B _ HRA.out HRB.out (by omega) hl hl').mono ?_
  intro e w7 hret
  obtain ⟨AO1, cO1, rfl, hr, hb⟩ := hret.get
  clear hret
  have hsz7 := hb.size
  replace HRA := Lib.hid (HRA.out.below (hb.mono (by omega)))
  replace HRB := Lib.hid (HRB.out.below (hb.mono (by omega)))
  replace HS1 := Lib.hid (HS1.out.below (hb.mono (by omega)))
  replace HS2 := Lib.hid (HS2.out.below (hb.mono (by omega)))
  replace HC1 := Lib.hid (HC1.out.below (hb.mono (by omega)))
  replace HC2 := Lib.hid (HC2.out.below (hb.mono (by omega)))
  have HO1 := Lib.hid hr
  clear hr
  replace HB := Lib.hid (below_step HB.out hb)
  clear hb
  go_wp2_with fail
  refine (rover_any A c a A' c' b B _ HRA.out HRB.out (by omega) hl hl').mono ?_
  intro e w8 hret
  obtain ⟨AO2, cO2, rfl, hr, hb⟩ := hret.get
  clear hret
  have hsz8 := hb.size
  replace HRA := Lib.hid (HRA.out.below (hb.mono (by omega)))
  replace HRB := Lib.hid (HRB.out.below (hb.mono (by omega)))
  replace HS1 := Lib.hid (HS1.out.below (hb.mono (by omega)))
  replace HS2 := Lib.hid (HS2.out.below (hb.mono (by omega)))
  replace HC1 := Lib.hid (HC1.out.below (hb.mono (by omega)))
  replace HC2 := Lib.hid (HC2.out.below (hb.mono (by omega)))
  replace HO1 := Lib.hid (HO1.out.below (hb.mono (by omega)))
  have HO2 := Lib.hid hr
  clear hr
  replace HB := Lib.hid (below_step HB.out hb)
  clear hb
  have k1 : (f1 == f1) = true := by simp
  have k2 : (f2 == f2) = true := by simp
  have k3 : (Rg.check a lo hi == Rg.check a lo hi) = true := by simp
  have k4 : ((Rg.setP a fr tu v).2 == (Rg.setP a fr tu v).2) = true := by simp
  have k5 : ((Rg.clearP a fr tu).2 == (Rg.clearP a fr tu).2) = true := by simp
  have k6 : ((Rg.overP a b).2 == (Rg.overP a b).2) = true := by simp
  have k7 : (Rg.countP a == Rg.countP a) = true := by simp
  go_wp2_with fail
  refine (rcheck_any A c a lo hi B _ HRA.out (by omega) (by omega)).mono ?_
  rintro e w9 ⟨rfl, hb⟩
  have hsz9 := hb.size
  replace HRA := Lib.hid (HRA.out.below (hb.mono (by omega)))
  replace HRB := Lib.hid (HRB.out.below (hb.mono (by omega)))
  replace HS1 := Lib.hid (HS1.out.below (hb.mono (by omega)))
  replace HS2 := Lib.hid (HS2.out.below (hb.mono (by omega)))
  replace HC1 := Lib.hid (HC1.out.below (hb.mono (by omega)))
  replace HC2 := Lib.hid (HC2.out.below (hb.mono (by omega)))
  replace HO1 := Lib.hid (HO1.out.below (hb.mono (by omega)))
  replace HO2 := Lib.hid (HO2.out.below (hb.mono (by omega)))
  replace HB := Lib.hid (below_step HB.out hb)
  clear hb
  go_wp2_with fail
  refine (rfcheck_any A c a lo hi B _ HRA.out (by omega) (by omega)).mono ?_
  rintro e w10 ⟨rfl, hb⟩
  have hsz10 := hb.size
  replace HRA := Lib.hid (HRA.out.below (hb.mono (by omega)))
  replace HRB := Lib.hid (HRB.out.below (hb.mono (by omega)))
  replace HS1 := Lib.hid (HS1.out.below (hb.mono (by omega)))
  replace HS2 := Lib.hid (HS2.out.below (hb.mono (by omega)))
  replace HC1 := Lib.hid (HC1.out.below (hb.mono (by omega)))
  replace HC2 := Lib.hid (HC2.out.below (hb.mono (by omega)))
  replace HO1 := Lib.hid (HO1.out.below (hb.mono (by omega)))
  replace HO2 := Lib.hid (HO2.out.below (hb.mono (by omega)))
  replace HB := Lib.hid (below_step HB.out hb)
  clear hb
  go_wp2_with fail
  refine (normal_any A c a B _ HRA.out (by omega) hl).mono ?_
  intro e w11 hret
  obtain ⟨AN1, cN1, rfl, hr, hb⟩ := hret.get
  clear hret
  have hsz11 := hb.size
  replace HRA := Lib.hid (HRA.out.below (hb.mono (by omega)))
  replace HRB := Lib.hid (HRB.out.below (hb.mono (by omega)))
  replace HS1 := Lib.hid (HS1.out.below (hb.mono (by omega)))
  replace HS2 := Lib.hid (HS2.out.below (hb.mono (by omega)))
  replace HC1 := Lib.hid (HC1.out.below (hb.mono (by omega)))
  replace HC2 := Lib.hid (HC2.out.below (hb.mono (by omega)))
  replace HO1 := Lib.hid (HO1.out.below (hb.mono (by omega)))
  replace HO2 := Lib.hid (HO2.out.below (hb.mono (by omega)))
  have HN1 := Lib.hid hr
  clear hr
  replace HB := Lib.hid (below_step HB.out hb)
  clear hb
  go_wp2_with fail
  refine (rnormal_any A c a B _ HRA.out (by omega) hl).mono ?_
  intro e w12 hret
  obtain ⟨AN2, cN2, rfl, hr, hb⟩ := hret.get
  clear hret
  have hsz12 := hb.size
  replace HRA := Lib.hid (HRA.out.below (hb.mono (by omega)))
  replace HRB := Lib.hid (HRB.out.below (hb.mono (by omega)))
  replace HS1 := Lib.hid (HS1.out.below (hb.mono (by omega)))
  replace HS2 := Lib.hid (HS2.out.below (hb.mono (by omega)))
  replace HC1 := Lib.hid (HC1.out.below (hb.mono (by omega)))
  replace HC2 := Lib.hid (HC2.out.below (hb.mono (by omega)))
  replace HO1 := Lib.hid (HO1.out.below (hb.mono (by omega)))
  replace HO2 := Lib.hid (HO2.out.below (hb.mono (by omega)))
  replace HN1 := Lib.hid (HN1.out.below (hb.mono (by omega)))
  have HN2 := Lib.hid hr
  clear hr
  replace HB := Lib.hid (below_step HB.out hb)
  clear hb
  go_wp2_with fail
  refine (samesp_any AN1 AN2 _ _ cN1 cN2 (Rg.normP a) (Rg.normP a) w12.heap.size _ ((HN1.out.more (by omega))) ((HN2.out.more (by omega))) rfl (by omega)).mono ?_
  rintro e u0 ⟨rfl, q0, rfl⟩
  go_wp2_with fail
  refine (samesp_any AS1 AS2 _ _ cS1 cS2 ((Rg.setP a fr tu v).1) ((Rg.setP a fr tu v).1) w12.heap.size _ (((HS1.out.more (by omega))).drewN _) (((HS2.out.more (by omega))).drewN _) rfl (by omega)).mono ?_
  rintro e u1 ⟨rfl, q1, rfl⟩
  go_wp2_with fail
  refine (samesp_any AC1 AC2 _ _ cC1 cC2 ((Rg.clearP a fr tu).1) ((Rg.clearP a fr tu).1) w12.heap.size _ (((HC1.out.more (by omega))).drewN _) (((HC2.out.more (by omega))).drewN _) rfl (by omega)).mono ?_
  rintro e u2 ⟨rfl, q2, rfl⟩
  go_wp2_with fail
  refine (samesp_any AO1 AO2 _ _ cO1 cO2 ((Rg.overP a b).1) ((Rg.overP a b).1) w12.heap.size _ (((HO1.out.more (by omega))).drewN _) (((HO2.out.more (by omega))).drewN _) rfl (by omega)).mono ?_
  rintro e u3 ⟨rfl, q3, rfl⟩
  replace HB := Lib.hid (below_drewN HB.out (q0 + q1 + q2 + q3))
  replace HRA := Lib.hid (HRA.out.drewN (q0 + q1 + q2 + q3))
  have hd : (w12.drewN (q0 + q1 + q2 + q3)).heap.size = w12.heap.size := rfl
  go_wp2_with fail
  generalize w12.drewN (q0 + q1 + q2 + q3) = wd at *
  go_wp2_with fail
  refine (count_any A c a B _ HRA.out (by omega) hl).mono ?_
  rintro e w13 ⟨rfl, hb⟩
  have hsz13 := hb.size
  replace HRA := Lib.hid (HRA.out.below (hb.mono (by omega)))
  replace HB := Lib.hid (below_step HB.out hb)
  clear hb
  go_wp2_with fail
  refine (rcount_any A c a B _ HRA.out (by omega) hl).mono ?_
  rintro e w14 ⟨rfl, hb⟩
  have hsz14 := hb.size
  replace HRA := Lib.hid (HRA.out.below (hb.mono (by omega)))
  replace HB := Lib.hid (below_step HB.out hb)
  clear hb
  go_wp2
  go_ret
  exact ⟨rfl, HB.out⟩
end Go.Proofs.Ythdfhijahkfjdaa
