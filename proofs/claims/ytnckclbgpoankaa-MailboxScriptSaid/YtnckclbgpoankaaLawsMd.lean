/- The walk of the law that a box behaves like a list, after any sequence of calls. -/
import Derived.Test.YtnckclbgpoankaaLawsMc
import Derived.Test.YtnckclbgpoankaaMid
namespace Go.Proofs.Ytnckclbgpoankaa
open Go Go.RowKit Go.Conc
set_option linter.unusedVariables false

theorem mid_own {w : World} {base n c : Nat} {A : Option Addr} {xs : List ByteArray} (h : OwnM w base A n c xs) : ∀ q, (Value.slice A n c).ownBlock = some q → base ≤ q := by
  intro q hq
  rcases h.2.2.2 with ⟨rfl, _⟩ | ⟨g, off, rfl, hb, _⟩
  · simp [Value.ownBlock] at hq
  · simp [Value.ownBlock] at hq; omega
theorem mid_ne {w : World} {base n c : Nat} {A : Option Addr} {xs : List ByteArray} (h : OwnM w base A n c xs) : ∀ g off, A = some ⟨g, off, none⟩ → w.heap.size ≠ g := by
  intro g off hA
  rcases h.2.2.2 with ⟨rfl, _⟩ | ⟨g', off', rfl, _, hlt, _⟩
  · cases hA
  · injection hA with hA; injection hA with h1 h2; omega
/-- A list that is read stays as it is while a block below 'base' is written. -/
theorem mid_below {w w' : World} {base n c : Nat} {A : Option Addr} {xs : List ByteArray} (h : OwnM w base A n c xs) (hb : Below w.heap.size w w') : OwnM w' base A n c xs :=
  h.keep (row := none) (only_below (only_refl w none) hb) (fun q hq => by cases hq)
theorem mid_rd {w w' : World} {base n c : Nat} {A : Option Addr} {xs : List ByteArray} (h : OwnM w base A n c xs) : Rd w w.heap.size 1 A n (strs xs) := h.rd

set_option maxRecDepth 100000 in
set_option maxHeartbeats 16000000 in
theorem walk_MailboxScript (a0 : Option Addr) (c0 : Nat) (x0 : List Int) (a1 : Option Addr) (c1 : Nat) (x1 : List ByteArray) (a2 : Int) (w : World) (r0 : Rd w w.heap.size 1 a0 x0.length (intsK .i64 x0)) (m0 : x0.length ≤ maxLen) (f0 : ∀ n ∈ x0, (Lit.int .i64 n).wf = true)
    (r1 : Rd w w.heap.size 1 a1 x1.length (strs x1)) (m1 : x1.length ≤ maxLen) (f1 : ∀ s ∈ x1, s.size ≤ maxLen) (w2 : (Lit.int .i64 a2).wf = true) :
    Calls Try.prog 5 #[.slice a0 x0.length c0, .slice a1 x1.length c1, .int .i64 a2] w fun e w' => e = .returned (.bool true) ∧ Below w.heap.size w w' := by
  clear f0 f1 w2
  rw [intsK_i64] at r0
  have HR := Lib.hid r0; have HM := Lib.hid m0; have HR1 := Lib.hid r1; clear r0 m0 r1
  unfold maxLen at m1
  have l0 := Kp.pick_lo a2 8 (by omega); have l1 := Kp.pick_hi a2 8 (by omega)
  obtain ⟨N, hN⟩ : ∃ N : Nat, 1 + Kp.pick a2 8 = (N : Int) := ⟨(1 + Kp.pick a2 8).toNat, by omega⟩
  have hN1 : 1 ≤ N := by omega
  have hN8 : N ≤ 8 := by omega
  have HN := Lib.hid hN; clear hN
  generalize hB : w.heap.size = B at *
  have HBB := Lib.hid hB; clear hB
  generalize hn1 : x1.length = n1 at *
  have HN1 := Lib.hid hn1; clear hn1
  go_enter Try.func5, Try.ntmps5
  go_wp2_with fail
  refine (pick_any _ _ (by omega) (by omega) _).mono ?_
  rintro e w' ⟨rfl, rfl⟩
  go_wp2_with fail
  rw [HN.out]
  refine (new_yes N hN1 hN8 _).mono ?_
  rintro e w1 ⟨g, c, rfl, hx1, hg1, hc1, hb1⟩
  rw [HBB.out] at hg1 hc1 hb1
  have HB1 := Lib.hid hb1; have HX1 := Lib.hid hx1; clear hb1 hx1
  go_wp2_with fail
  refine (from_any _ _ _ _).mono ?_
  rintro e w3 ⟨rfl, rfl⟩
  have HS3 := Lib.hid (src_new w1 a0 x0.length c0)
  obtain ⟨hl1, hl2, hl3⟩ := HX1.out.lt
  have HX3 := Lib.hid (HX1.out.below ((Below.refl w1.heap.size w1).alloc (Nat.le_refl _) (.cells #[.slice a0 x0.length c0, .int .i64 0] 64)) hl1 hl2)
  have hBs : B ≤ w1.heap.size := by have := HB1.out.size; have := HBB.out; omega
  have HB3 := Lib.hid (HB1.out.alloc hBs (.cells #[.slice a0 x0.length c0, .int .i64 0] 64))
  have hsz3 : (w1.alloc (.cells #[.slice a0 x0.length c0, .int .i64 0] 64)).heap.size = w1.heap.size + 1 := by simp
  generalize hgs : w1.heap.size = gs at *
  clear hgs
  generalize w1.alloc (.cells #[.slice a0 x0.length c0, .int .i64 0] 64) = w3 at *
  generalize hK : w3.heap.size = K at *
  have HK := Lib.hid hK; clear hK
  have hgK : gs < K := by omega
  clear hsz3
  go_wp2_with fail
  go_loopw [11, 12] (fun vl i wr => ∃ (k p : Nat) (xs : List ByteArray) (A : Option Addr) (d : Nat), k ≤ 60 ∧ i = .int .i64 k ∧ vl = .slice A xs.length d ∧ xs.length ≤ N ∧
      Src wr gs a0 x0.length c0 p ∧ Box wr g c N xs ∧ OwnM wr K A xs.length d xs ∧ Below B w wr ∧ K ≤ wr.heap.size) (fun _ i _ => 60 - (intOf i).toNat)
  case atStart => exact ⟨0, 0, [], none, 0, by omega, rfl, rfl, by simp, HS3.out, HX3.out, OwnM.nil_ _ _, HB3.out, by have := HK.out; omega⟩
  case round =>
    obtain ⟨k, p, xs, A, d, hk, rfl, rfl, hxN, hs, hx, ho, hb, hKr⟩ := hrel
    have HS := Lib.hid hs; have HX := Lib.hid hx; have HO := Lib.hid ho; have HBW := Lib.hid hb
    clear hs hx ho hb
    by_cases hk60 : k < 60
    · by_cases hp : p < x0.length
      · go_wp2_with fail
        refine (left_any _ _ _ _ _ _ HS.out).mono ?_
        have hd : decide (p < x0.length) = true := by simpa using hp
        rw [hd]
        rintro e w1' ⟨rfl, m1', rfl⟩
        clear hd
        have HRa := Lib.hid ((HR.out.below HBW.out).drewN m1')
        go_wp2_with fail
        refine (next_any _ _ _ _ _ 7 (by omega) (by omega) B _ (HS.out.drewN m1') HRa.out (by omega) HM.out).mono ?_
        rintro e w4 ⟨rfl, hs4, hg4⟩
        have n0 := Kp.nx_lo x0 p 7 (by omega); have n7 := Kp.nx_hi x0 p 7 (by omega)
        have hgw : wr.grownBy w4 (some gs) := only_trans (only_drewN (only_refl _ _) m1') hg4
        have HS4 := Lib.hid hs4
        have HX4 := Lib.hid (HX.out.only hgw (by simp; omega) (by simp; omega))
        have HO4 := Lib.hid (HO.out.keep hgw (fun q hq => by injection hq; omega))
        have HBW4 := Lib.hid (HBW.out.grown hgw (by have := HBW.out.size; have := HBB.out; omega) (fun q hq => by injection hq; omega))
        have hK4 : K ≤ w4.heap.size := by have := hgw.size; omega
        clear hs4 hg4 hgw
        rcases (show Kp.nx x0 p 7 = 0 ∨ Kp.nx x0 p 7 = 1 ∨ Kp.nx x0 p 7 = 2 ∨ Kp.nx x0 p 7 = 3 ∨ Kp.nx x0 p 7 = 4 ∨ Kp.nx x0 p 7 = 5 ∨ Kp.nx x0 p 7 = 6 from by omega) with hv | hv | hv | hv | hv | hv | hv
        · have b0 : (Kp.nx x0 p 7 == 0) = true := by rw [hv]; decide
          clear hv
          by_cases ht : n1 = 0
          · have htI : ¬ (0 : Int) < (n1 : Int) := by omega
            clear ht
            go_wp2_with fail
            by_cases hroom : xs.length < N
            · have hroomI : (xs.length : Int) < (N : Int) := by omega
              refine (put_yes _ _ _ _ (ByteArray.mk #[120]) _ HX4.out hroom).mono ?_
              rintro e w7 ⟨rfl, hx7, hg7⟩
              have HX7 := Lib.hid hx7
              have HS7 := Lib.hid (Bk.grown HS4.out hg7 (by simp; omega))
              have HO7 := Lib.hid (HO4.out.keep hg7 (fun q hq => by injection hq; omega))
              have HB7 := Lib.hid (HBW4.out.grown hg7 (by have := HBW4.out.size; have := HBB.out; omega) (fun q hq => by injection hq; omega))
              have hK7 : K ≤ w7.heap.size := by have := hg7.size; omega
              clear hx7 hg7
              go_wp2_with (at_builtin; refine app_mid (by rfl) _ _ rfl rfl (HO7.out.alloc _) ⟨w7.heap.size, 0, none⟩ 1 (ByteArray.mk #[120]) rfl (mid_ne HO7.out) (by simp) (by omega) (by simp; omega) ?_)
              intro A8 d8 w8 ho8 hg8
              have hal : w7.grownBy (w7.alloc (.cells #[.string (ByteArray.mk #[120])] 9)) none := only_alloc (only_refl _ _) _
              have hq := mid_own HO7.out
              have HX8 := Lib.hid ((HX7.out.only hal (by simp) (by simp)).only hg8 (by intro h; have := hq _ h.symm; omega) (by intro h; have := hq _ h.symm; omega))
              have HS8 := Lib.hid (Bk.grown (Bk.grown HS7.out hal (by simp)) hg8 (by intro h; have := hq _ h.symm; omega))
              have HO8 := Lib.hid ho8
              have HB8 := Lib.hid ((HB7.out.alloc (by have := HB7.out.size; have := HBB.out; omega) (.cells #[.string (ByteArray.mk #[120])] 9)).grown hg8 (by simp; have := HB7.out.size; have := HBB.out; omega) (fun q h => by have := hq q h; omega))
              have hK8 : K ≤ w8.heap.size := by have := hg8.size; simp at this; omega
              have hln : (xs ++ [(ByteArray.mk #[120])]).length = xs.length + 1 := by simp
              have hlne : (((xs.length + 1 : Nat) : Int) != (xs.length : Int) + 1) = false := by simp
              have HLN := Lib.hid hln; clear hln
              clear ho8 hg8 hq hal
              go_wp2_with fail
              refine (len_any _ _ _ _ _ HX8.out).mono ?_
              rw [HLN.out]
              rintro e w' ⟨rfl, rfl⟩
              go_wp2_with fail
              go_roundw
              case rel => exact ⟨k + 1, _, xs ++ [(ByteArray.mk #[120])], A8, d8, by omega, by go_num, (by rw [HLN.out]), (by rw [HLN.out]; omega), HS8.out, HX8.out, (by rw [HLN.out]; exact HO8.out), HB8.out, hK8⟩
              case measure => simp [intOf]; omega
            · have hroomI : ¬ (xs.length : Int) < (N : Int) := by omega
              refine (put_no _ _ _ _ (ByteArray.mk #[120]) _ HX4.out (by omega)).mono ?_
              rintro e w' ⟨rfl, rfl⟩
              go_wp2_with fail
              refine (len_any _ _ _ _ _ HX4.out).mono ?_
              rintro e w' ⟨rfl, rfl⟩
              go_wp2_with fail
              go_roundw
              case rel => exact ⟨k + 1, _, xs, A, d, by omega, by go_num, rfl, by omega, HS4.out, HX4.out, HO4.out, HBW4.out, hK4⟩
              case measure => simp [intOf]; omega
          · have htI : (0 : Int) < (n1 : Int) := by omega
            have HRb := Lib.hid (HR.out.below HBW4.out)
            have j0 := Kp.nx_lo x0 (Kp.ad x0 p) (n1 : Int) (by omega); have j1 := Kp.nx_hi x0 (Kp.ad x0 p) (n1 : Int) (by omega)
            obtain ⟨j, hj⟩ := Int.eq_ofNat_of_zero_le j0
            have hjn : j < n1 := by omega
            have HJ := Lib.hid hj; clear hj j0 j1
            go_wp2_with fail
            refine (next_any _ _ _ _ _ (n1 : Int) (by omega) (by omega) B _ HS4.out HRb.out (by omega) HM.out).mono ?_
            rintro e w5 ⟨rfl, hs5, hg5⟩
            rw [HJ.out]
            have HS5 := Lib.hid hs5
            have HX5 := Lib.hid (HX4.out.only hg5 (by simp; omega) (by simp; omega))
            have HO5 := Lib.hid (HO4.out.keep hg5 (fun q hq => by injection hq; omega))
            have HBW5 := Lib.hid (HBW4.out.grown hg5 (by have := HBW4.out.size; have := HBB.out; omega) (fun q hq => by injection hq; omega))
            have hK5 : K ≤ w5.heap.size := by have := hg5.size; omega
            clear hs5 hg5
            obtain ⟨b, off, t, rfl, _, _, hct⟩ := strs_cell (HR1.out.below HBW5.out) hjn
            go_wp2_with fail
            by_cases hroom : xs.length < N
            · have hroomI : (xs.length : Int) < (N : Int) := by omega
              refine (put_yes _ _ _ _ t _ HX5.out hroom).mono ?_
              rintro e w7 ⟨rfl, hx7, hg7⟩
              have HX7 := Lib.hid hx7
              have HS7 := Lib.hid (Bk.grown HS5.out hg7 (by simp; omega))
              have HO7 := Lib.hid (HO5.out.keep hg7 (fun q hq => by injection hq; omega))
              have HB7 := Lib.hid (HBW5.out.grown hg7 (by have := HBW5.out.size; have := HBB.out; omega) (fun q hq => by injection hq; omega))
              have hK7 : K ≤ w7.heap.size := by have := hg7.size; omega
              clear hx7 hg7
              go_wp2_with (at_builtin; refine app_mid (by rfl) _ _ rfl rfl (HO7.out.alloc _) ⟨w7.heap.size, 0, none⟩ 1 t rfl (mid_ne HO7.out) (by simp) (by omega) (by simp; omega) ?_)
              intro A8 d8 w8 ho8 hg8
              have hal : w7.grownBy (w7.alloc (.cells #[.string t] 9)) none := only_alloc (only_refl _ _) _
              have hq := mid_own HO7.out
              have HX8 := Lib.hid ((HX7.out.only hal (by simp) (by simp)).only hg8 (by intro h; have := hq _ h.symm; omega) (by intro h; have := hq _ h.symm; omega))
              have HS8 := Lib.hid (Bk.grown (Bk.grown HS7.out hal (by simp)) hg8 (by intro h; have := hq _ h.symm; omega))
              have HO8 := Lib.hid ho8
              have HB8 := Lib.hid ((HB7.out.alloc (by have := HB7.out.size; have := HBB.out; omega) (.cells #[.string t] 9)).grown hg8 (by simp; have := HB7.out.size; have := HBB.out; omega) (fun q h => by have := hq q h; omega))
              have hK8 : K ≤ w8.heap.size := by have := hg8.size; simp at this; omega
              have hln : (xs ++ [t]).length = xs.length + 1 := by simp
              have hlne : (((xs.length + 1 : Nat) : Int) != (xs.length : Int) + 1) = false := by simp
              have HLN := Lib.hid hln; clear hln
              clear ho8 hg8 hq hal
              go_wp2_with fail
              refine (len_any _ _ _ _ _ HX8.out).mono ?_
              rw [HLN.out]
              rintro e w' ⟨rfl, rfl⟩
              go_wp2_with fail
              go_roundw
              case rel => exact ⟨k + 1, _, xs ++ [t], A8, d8, by omega, by go_num, (by rw [HLN.out]), (by rw [HLN.out]; omega), HS8.out, HX8.out, (by rw [HLN.out]; exact HO8.out), HB8.out, hK8⟩
              case measure => simp [intOf]; omega
            · have hroomI : ¬ (xs.length : Int) < (N : Int) := by omega
              refine (put_no _ _ _ _ t _ HX5.out (by omega)).mono ?_
              rintro e w' ⟨rfl, rfl⟩
              go_wp2_with fail
              refine (len_any _ _ _ _ _ HX5.out).mono ?_
              rintro e w' ⟨rfl, rfl⟩
              go_wp2_with fail
              go_roundw
              case rel => exact ⟨k + 1, _, xs, A, d, by omega, by go_num, rfl, by omega, HS5.out, HX5.out, HO5.out, HBW5.out, hK5⟩
              case measure => simp [intOf]; omega
        · have b0 : (Kp.nx x0 p 7 == 0) = false := by rw [hv]; decide
          have b1 : (Kp.nx x0 p 7 == 1) = true := by rw [hv]; decide
          clear hv
          by_cases ht : n1 = 0
          · have htI : ¬ (0 : Int) < (n1 : Int) := by omega
            clear ht
            go_wp2_with fail
            by_cases hroom : xs.length < N
            · have hroomI : (xs.length : Int) < (N : Int) := by omega
              refine (put_yes _ _ _ _ (ByteArray.mk #[120]) _ HX4.out hroom).mono ?_
              rintro e w7 ⟨rfl, hx7, hg7⟩
              have HX7 := Lib.hid hx7
              have HS7 := Lib.hid (Bk.grown HS4.out hg7 (by simp; omega))
              have HO7 := Lib.hid (HO4.out.keep hg7 (fun q hq => by injection hq; omega))
              have HB7 := Lib.hid (HBW4.out.grown hg7 (by have := HBW4.out.size; have := HBB.out; omega) (fun q hq => by injection hq; omega))
              have hK7 : K ≤ w7.heap.size := by have := hg7.size; omega
              clear hx7 hg7
              go_wp2_with (at_builtin; refine app_mid (by rfl) _ _ rfl rfl (HO7.out.alloc _) ⟨w7.heap.size, 0, none⟩ 1 (ByteArray.mk #[120]) rfl (mid_ne HO7.out) (by simp) (by omega) (by simp; omega) ?_)
              intro A8 d8 w8 ho8 hg8
              have hal : w7.grownBy (w7.alloc (.cells #[.string (ByteArray.mk #[120])] 9)) none := only_alloc (only_refl _ _) _
              have hq := mid_own HO7.out
              have HX8 := Lib.hid ((HX7.out.only hal (by simp) (by simp)).only hg8 (by intro h; have := hq _ h.symm; omega) (by intro h; have := hq _ h.symm; omega))
              have HS8 := Lib.hid (Bk.grown (Bk.grown HS7.out hal (by simp)) hg8 (by intro h; have := hq _ h.symm; omega))
              have HO8 := Lib.hid ho8
              have HB8 := Lib.hid ((HB7.out.alloc (by have := HB7.out.size; have := HBB.out; omega) (.cells #[.string (ByteArray.mk #[120])] 9)).grown hg8 (by simp; have := HB7.out.size; have := HBB.out; omega) (fun q h => by have := hq q h; omega))
              have hK8 : K ≤ w8.heap.size := by have := hg8.size; simp at this; omega
              have hln : (xs ++ [(ByteArray.mk #[120])]).length = xs.length + 1 := by simp
              have hlne : (((xs.length + 1 : Nat) : Int) != (xs.length : Int) + 1) = false := by simp
              have HLN := Lib.hid hln; clear hln
              clear ho8 hg8 hq hal
              go_wp2_with fail
              refine (len_any _ _ _ _ _ HX8.out).mono ?_
              rw [HLN.out]
              rintro e w' ⟨rfl, rfl⟩
              go_wp2_with fail
              go_roundw
              case rel => exact ⟨k + 1, _, xs ++ [(ByteArray.mk #[120])], A8, d8, by omega, by go_num, (by rw [HLN.out]), (by rw [HLN.out]; omega), HS8.out, HX8.out, (by rw [HLN.out]; exact HO8.out), HB8.out, hK8⟩
              case measure => simp [intOf]; omega
            · have hroomI : ¬ (xs.length : Int) < (N : Int) := by omega
              refine (put_no _ _ _ _ (ByteArray.mk #[120]) _ HX4.out (by omega)).mono ?_
              rintro e w' ⟨rfl, rfl⟩
              go_wp2_with fail
              refine (len_any _ _ _ _ _ HX4.out).mono ?_
              rintro e w' ⟨rfl, rfl⟩
              go_wp2_with fail
              go_roundw
              case rel => exact ⟨k + 1, _, xs, A, d, by omega, by go_num, rfl, by omega, HS4.out, HX4.out, HO4.out, HBW4.out, hK4⟩
              case measure => simp [intOf]; omega
          · have htI : (0 : Int) < (n1 : Int) := by omega
            have HRb := Lib.hid (HR.out.below HBW4.out)
            have j0 := Kp.nx_lo x0 (Kp.ad x0 p) (n1 : Int) (by omega); have j1 := Kp.nx_hi x0 (Kp.ad x0 p) (n1 : Int) (by omega)
            obtain ⟨j, hj⟩ := Int.eq_ofNat_of_zero_le j0
            have hjn : j < n1 := by omega
            have HJ := Lib.hid hj; clear hj j0 j1
            go_wp2_with fail
            refine (next_any _ _ _ _ _ (n1 : Int) (by omega) (by omega) B _ HS4.out HRb.out (by omega) HM.out).mono ?_
            rintro e w5 ⟨rfl, hs5, hg5⟩
            rw [HJ.out]
            have HS5 := Lib.hid hs5
            have HX5 := Lib.hid (HX4.out.only hg5 (by simp; omega) (by simp; omega))
            have HO5 := Lib.hid (HO4.out.keep hg5 (fun q hq => by injection hq; omega))
            have HBW5 := Lib.hid (HBW4.out.grown hg5 (by have := HBW4.out.size; have := HBB.out; omega) (fun q hq => by injection hq; omega))
            have hK5 : K ≤ w5.heap.size := by have := hg5.size; omega
            clear hs5 hg5
            obtain ⟨b, off, t, rfl, _, _, hct⟩ := strs_cell (HR1.out.below HBW5.out) hjn
            go_wp2_with fail
            by_cases hroom : xs.length < N
            · have hroomI : (xs.length : Int) < (N : Int) := by omega
              refine (put_yes _ _ _ _ t _ HX5.out hroom).mono ?_
              rintro e w7 ⟨rfl, hx7, hg7⟩
              have HX7 := Lib.hid hx7
              have HS7 := Lib.hid (Bk.grown HS5.out hg7 (by simp; omega))
              have HO7 := Lib.hid (HO5.out.keep hg7 (fun q hq => by injection hq; omega))
              have HB7 := Lib.hid (HBW5.out.grown hg7 (by have := HBW5.out.size; have := HBB.out; omega) (fun q hq => by injection hq; omega))
              have hK7 : K ≤ w7.heap.size := by have := hg7.size; omega
              clear hx7 hg7
              go_wp2_with (at_builtin; refine app_mid (by rfl) _ _ rfl rfl (HO7.out.alloc _) ⟨w7.heap.size, 0, none⟩ 1 t rfl (mid_ne HO7.out) (by simp) (by omega) (by simp; omega) ?_)
              intro A8 d8 w8 ho8 hg8
              have hal : w7.grownBy (w7.alloc (.cells #[.string t] 9)) none := only_alloc (only_refl _ _) _
              have hq := mid_own HO7.out
              have HX8 := Lib.hid ((HX7.out.only hal (by simp) (by simp)).only hg8 (by intro h; have := hq _ h.symm; omega) (by intro h; have := hq _ h.symm; omega))
              have HS8 := Lib.hid (Bk.grown (Bk.grown HS7.out hal (by simp)) hg8 (by intro h; have := hq _ h.symm; omega))
              have HO8 := Lib.hid ho8
              have HB8 := Lib.hid ((HB7.out.alloc (by have := HB7.out.size; have := HBB.out; omega) (.cells #[.string t] 9)).grown hg8 (by simp; have := HB7.out.size; have := HBB.out; omega) (fun q h => by have := hq q h; omega))
              have hK8 : K ≤ w8.heap.size := by have := hg8.size; simp at this; omega
              have hln : (xs ++ [t]).length = xs.length + 1 := by simp
              have hlne : (((xs.length + 1 : Nat) : Int) != (xs.length : Int) + 1) = false := by simp
              have HLN := Lib.hid hln; clear hln
              clear ho8 hg8 hq hal
              go_wp2_with fail
              refine (len_any _ _ _ _ _ HX8.out).mono ?_
              rw [HLN.out]
              rintro e w' ⟨rfl, rfl⟩
              go_wp2_with fail
              go_roundw
              case rel => exact ⟨k + 1, _, xs ++ [t], A8, d8, by omega, by go_num, (by rw [HLN.out]), (by rw [HLN.out]; omega), HS8.out, HX8.out, (by rw [HLN.out]; exact HO8.out), HB8.out, hK8⟩
              case measure => simp [intOf]; omega
            · have hroomI : ¬ (xs.length : Int) < (N : Int) := by omega
              refine (put_no _ _ _ _ t _ HX5.out (by omega)).mono ?_
              rintro e w' ⟨rfl, rfl⟩
              go_wp2_with fail
              refine (len_any _ _ _ _ _ HX5.out).mono ?_
              rintro e w' ⟨rfl, rfl⟩
              go_wp2_with fail
              go_roundw
              case rel => exact ⟨k + 1, _, xs, A, d, by omega, by go_num, rfl, by omega, HS5.out, HX5.out, HO5.out, HBW5.out, hK5⟩
              case measure => simp [intOf]; omega
        · have b0 : (Kp.nx x0 p 7 == 0) = false := by rw [hv]; decide
          have b1 : (Kp.nx x0 p 7 == 1) = false := by rw [hv]; decide
          have b2 : (Kp.nx x0 p 7 == 2) = true := by rw [hv]; decide
          clear hv
          by_cases ht : n1 = 0
          · have htI : ¬ (0 : Int) < (n1 : Int) := by omega
            clear ht
            go_wp2_with fail
            by_cases hroom : xs.length < N
            · have hroomI : (xs.length : Int) < (N : Int) := by omega
              refine (put_yes _ _ _ _ (ByteArray.mk #[120]) _ HX4.out hroom).mono ?_
              rintro e w7 ⟨rfl, hx7, hg7⟩
              have HX7 := Lib.hid hx7
              have HS7 := Lib.hid (Bk.grown HS4.out hg7 (by simp; omega))
              have HO7 := Lib.hid (HO4.out.keep hg7 (fun q hq => by injection hq; omega))
              have HB7 := Lib.hid (HBW4.out.grown hg7 (by have := HBW4.out.size; have := HBB.out; omega) (fun q hq => by injection hq; omega))
              have hK7 : K ≤ w7.heap.size := by have := hg7.size; omega
              clear hx7 hg7
              go_wp2_with (at_builtin; refine app_mid (by rfl) _ _ rfl rfl (HO7.out.alloc _) ⟨w7.heap.size, 0, none⟩ 1 (ByteArray.mk #[120]) rfl (mid_ne HO7.out) (by simp) (by omega) (by simp; omega) ?_)
              intro A8 d8 w8 ho8 hg8
              have hal : w7.grownBy (w7.alloc (.cells #[.string (ByteArray.mk #[120])] 9)) none := only_alloc (only_refl _ _) _
              have hq := mid_own HO7.out
              have HX8 := Lib.hid ((HX7.out.only hal (by simp) (by simp)).only hg8 (by intro h; have := hq _ h.symm; omega) (by intro h; have := hq _ h.symm; omega))
              have HS8 := Lib.hid (Bk.grown (Bk.grown HS7.out hal (by simp)) hg8 (by intro h; have := hq _ h.symm; omega))
              have HO8 := Lib.hid ho8
              have HB8 := Lib.hid ((HB7.out.alloc (by have := HB7.out.size; have := HBB.out; omega) (.cells #[.string (ByteArray.mk #[120])] 9)).grown hg8 (by simp; have := HB7.out.size; have := HBB.out; omega) (fun q h => by have := hq q h; omega))
              have hK8 : K ≤ w8.heap.size := by have := hg8.size; simp at this; omega
              have hln : (xs ++ [(ByteArray.mk #[120])]).length = xs.length + 1 := by simp
              have hlne : (((xs.length + 1 : Nat) : Int) != (xs.length : Int) + 1) = false := by simp
              have HLN := Lib.hid hln; clear hln
              clear ho8 hg8 hq hal
              go_wp2_with fail
              refine (len_any _ _ _ _ _ HX8.out).mono ?_
              rw [HLN.out]
              rintro e w' ⟨rfl, rfl⟩
              go_wp2_with fail
              go_roundw
              case rel => exact ⟨k + 1, _, xs ++ [(ByteArray.mk #[120])], A8, d8, by omega, by go_num, (by rw [HLN.out]), (by rw [HLN.out]; omega), HS8.out, HX8.out, (by rw [HLN.out]; exact HO8.out), HB8.out, hK8⟩
              case measure => simp [intOf]; omega
            · have hroomI : ¬ (xs.length : Int) < (N : Int) := by omega
              refine (put_no _ _ _ _ (ByteArray.mk #[120]) _ HX4.out (by omega)).mono ?_
              rintro e w' ⟨rfl, rfl⟩
              go_wp2_with fail
              refine (len_any _ _ _ _ _ HX4.out).mono ?_
              rintro e w' ⟨rfl, rfl⟩
              go_wp2_with fail
              go_roundw
              case rel => exact ⟨k + 1, _, xs, A, d, by omega, by go_num, rfl, by omega, HS4.out, HX4.out, HO4.out, HBW4.out, hK4⟩
              case measure => simp [intOf]; omega
          · have htI : (0 : Int) < (n1 : Int) := by omega
            have HRb := Lib.hid (HR.out.below HBW4.out)
            have j0 := Kp.nx_lo x0 (Kp.ad x0 p) (n1 : Int) (by omega); have j1 := Kp.nx_hi x0 (Kp.ad x0 p) (n1 : Int) (by omega)
            obtain ⟨j, hj⟩ := Int.eq_ofNat_of_zero_le j0
            have hjn : j < n1 := by omega
            have HJ := Lib.hid hj; clear hj j0 j1
            go_wp2_with fail
            refine (next_any _ _ _ _ _ (n1 : Int) (by omega) (by omega) B _ HS4.out HRb.out (by omega) HM.out).mono ?_
            rintro e w5 ⟨rfl, hs5, hg5⟩
            rw [HJ.out]
            have HS5 := Lib.hid hs5
            have HX5 := Lib.hid (HX4.out.only hg5 (by simp; omega) (by simp; omega))
            have HO5 := Lib.hid (HO4.out.keep hg5 (fun q hq => by injection hq; omega))
            have HBW5 := Lib.hid (HBW4.out.grown hg5 (by have := HBW4.out.size; have := HBB.out; omega) (fun q hq => by injection hq; omega))
            have hK5 : K ≤ w5.heap.size := by have := hg5.size; omega
            clear hs5 hg5
            obtain ⟨b, off, t, rfl, _, _, hct⟩ := strs_cell (HR1.out.below HBW5.out) hjn
            go_wp2_with fail
            by_cases hroom : xs.length < N
            · have hroomI : (xs.length : Int) < (N : Int) := by omega
              refine (put_yes _ _ _ _ t _ HX5.out hroom).mono ?_
              rintro e w7 ⟨rfl, hx7, hg7⟩
              have HX7 := Lib.hid hx7
              have HS7 := Lib.hid (Bk.grown HS5.out hg7 (by simp; omega))
              have HO7 := Lib.hid (HO5.out.keep hg7 (fun q hq => by injection hq; omega))
              have HB7 := Lib.hid (HBW5.out.grown hg7 (by have := HBW5.out.size; have := HBB.out; omega) (fun q hq => by injection hq; omega))
              have hK7 : K ≤ w7.heap.size := by have := hg7.size; omega
              clear hx7 hg7
              go_wp2_with (at_builtin; refine app_mid (by rfl) _ _ rfl rfl (HO7.out.alloc _) ⟨w7.heap.size, 0, none⟩ 1 t rfl (mid_ne HO7.out) (by simp) (by omega) (by simp; omega) ?_)
              intro A8 d8 w8 ho8 hg8
              have hal : w7.grownBy (w7.alloc (.cells #[.string t] 9)) none := only_alloc (only_refl _ _) _
              have hq := mid_own HO7.out
              have HX8 := Lib.hid ((HX7.out.only hal (by simp) (by simp)).only hg8 (by intro h; have := hq _ h.symm; omega) (by intro h; have := hq _ h.symm; omega))
              have HS8 := Lib.hid (Bk.grown (Bk.grown HS7.out hal (by simp)) hg8 (by intro h; have := hq _ h.symm; omega))
              have HO8 := Lib.hid ho8
              have HB8 := Lib.hid ((HB7.out.alloc (by have := HB7.out.size; have := HBB.out; omega) (.cells #[.string t] 9)).grown hg8 (by simp; have := HB7.out.size; have := HBB.out; omega) (fun q h => by have := hq q h; omega))
              have hK8 : K ≤ w8.heap.size := by have := hg8.size; simp at this; omega
              have hln : (xs ++ [t]).length = xs.length + 1 := by simp
              have hlne : (((xs.length + 1 : Nat) : Int) != (xs.length : Int) + 1) = false := by simp
              have HLN := Lib.hid hln; clear hln
              clear ho8 hg8 hq hal
              go_wp2_with fail
              refine (len_any _ _ _ _ _ HX8.out).mono ?_
              rw [HLN.out]
              rintro e w' ⟨rfl, rfl⟩
              go_wp2_with fail
              go_roundw
              case rel => exact ⟨k + 1, _, xs ++ [t], A8, d8, by omega, by go_num, (by rw [HLN.out]), (by rw [HLN.out]; omega), HS8.out, HX8.out, (by rw [HLN.out]; exact HO8.out), HB8.out, hK8⟩
              case measure => simp [intOf]; omega
            · have hroomI : ¬ (xs.length : Int) < (N : Int) := by omega
              refine (put_no _ _ _ _ t _ HX5.out (by omega)).mono ?_
              rintro e w' ⟨rfl, rfl⟩
              go_wp2_with fail
              refine (len_any _ _ _ _ _ HX5.out).mono ?_
              rintro e w' ⟨rfl, rfl⟩
              go_wp2_with fail
              go_roundw
              case rel => exact ⟨k + 1, _, xs, A, d, by omega, by go_num, rfl, by omega, HS5.out, HX5.out, HO5.out, HBW5.out, hK5⟩
              case measure => simp [intOf]; omega
        · have b0 : (Kp.nx x0 p 7 == 0) = false := by rw [hv]; decide
          have b1 : (Kp.nx x0 p 7 == 1) = false := by rw [hv]; decide
          have b2 : (Kp.nx x0 p 7 == 2) = false := by rw [hv]; decide
          have b3 : (Kp.nx x0 p 7 == 3) = true := by rw [hv]; decide
          clear hv
          cases xs with
          | nil =>
            go_wp2_with fail
            refine (take_no _ _ _ _ HX4.out).mono ?_
            rintro e w' ⟨rfl, rfl⟩
            have he1 : ((0 : Int) == 0) = true := rfl
            go_wp2_with fail
            go_roundw
            case rel => exact ⟨k + 1, _, [], A, d, by omega, by go_num, rfl, by simp, HS4.out, HX4.out, HO4.out, HBW4.out, hK4⟩
            case measure => simp [intOf]; omega
          | cons t xs =>
            go_wp2_with fail
            refine (take_yes _ _ _ _ _ _ HX4.out).mono ?_
            rintro e w5 ⟨rfl, hx5, hg5⟩
            have HX5 := Lib.hid hx5
            have HS5 := Lib.hid (Bk.grown HS4.out hg5 (by simp; omega))
            have HO5 := Lib.hid (HO4.out.keep hg5 (fun q hq => by injection hq; omega))
            have HB5 := Lib.hid (HBW4.out.grown hg5 (by have := HBW4.out.size; have := HBB.out; omega) (fun q hq => by injection hq; omega))
            have hK5 : K ≤ w5.heap.size := by have := hg5.size; omega
            clear hx5 hg5
            obtain ⟨gl, ol, rfl, hct, hot⟩ := HO5.out.tail
            have hdc : xs.length + 1 ≤ d := HO5.out.2.1
            have hse : (t.toList == t.toList) = true := by simp
            have hne0 : (((xs.length : Int) + 1) == 0) = false := by rw [beq_eq_false_iff_ne]; omega
            by_cases hd1 : d = 1
            · subst hd1
              obtain rfl : xs = [] := List.eq_nil_of_length_eq_zero (by omega)
              rw [if_pos rfl] at hot
              have HOT := Lib.hid hot; clear hot
              go_wp2_with fail
              refine (len_any _ _ _ _ _ HX5.out).mono ?_
              rintro e w' ⟨rfl, rfl⟩
              go_wp2_with fail
              go_roundw
              case rel => exact ⟨k + 1, _, [], some ⟨gl, ol, none⟩, 0, by omega, by go_num, rfl, by simp, HS5.out, HX5.out, HOT.out, HB5.out, hK5⟩
              case measure => simp [intOf]; omega
            · rw [if_neg hd1] at hot
              have HOT := Lib.hid hot; clear hot
              go_wp2_with fail
              refine (len_any _ _ _ _ _ HX5.out).mono ?_
              rintro e w' ⟨rfl, rfl⟩
              go_wp2_with fail
              go_roundw
              case rel => exact ⟨k + 1, _, xs, some ⟨gl, ol + 1, none⟩, d - 1, by omega, by go_num, rfl, by simp at hxN; omega, HS5.out, HX5.out, HOT.out, HB5.out, hK5⟩
              case measure => simp [intOf]; omega
        · have b0 : (Kp.nx x0 p 7 == 0) = false := by rw [hv]; decide
          have b1 : (Kp.nx x0 p 7 == 1) = false := by rw [hv]; decide
          have b2 : (Kp.nx x0 p 7 == 2) = false := by rw [hv]; decide
          have b3 : (Kp.nx x0 p 7 == 3) = false := by rw [hv]; decide
          have b4 : (Kp.nx x0 p 7 == 4) = true := by rw [hv]; decide
          clear hv
          cases xs with
          | nil =>
            go_wp2_with fail
            refine (take_no _ _ _ _ HX4.out).mono ?_
            rintro e w' ⟨rfl, rfl⟩
            have he1 : ((0 : Int) == 0) = true := rfl
            go_wp2_with fail
            go_roundw
            case rel => exact ⟨k + 1, _, [], A, d, by omega, by go_num, rfl, by simp, HS4.out, HX4.out, HO4.out, HBW4.out, hK4⟩
            case measure => simp [intOf]; omega
          | cons t xs =>
            go_wp2_with fail
            refine (take_yes _ _ _ _ _ _ HX4.out).mono ?_
            rintro e w5 ⟨rfl, hx5, hg5⟩
            have HX5 := Lib.hid hx5
            have HS5 := Lib.hid (Bk.grown HS4.out hg5 (by simp; omega))
            have HO5 := Lib.hid (HO4.out.keep hg5 (fun q hq => by injection hq; omega))
            have HB5 := Lib.hid (HBW4.out.grown hg5 (by have := HBW4.out.size; have := HBB.out; omega) (fun q hq => by injection hq; omega))
            have hK5 : K ≤ w5.heap.size := by have := hg5.size; omega
            clear hx5 hg5
            obtain ⟨gl, ol, rfl, hct, hot⟩ := HO5.out.tail
            have hdc : xs.length + 1 ≤ d := HO5.out.2.1
            have hse : (t.toList == t.toList) = true := by simp
            have hne0 : (((xs.length : Int) + 1) == 0) = false := by rw [beq_eq_false_iff_ne]; omega
            by_cases hd1 : d = 1
            · subst hd1
              obtain rfl : xs = [] := List.eq_nil_of_length_eq_zero (by omega)
              rw [if_pos rfl] at hot
              have HOT := Lib.hid hot; clear hot
              go_wp2_with fail
              refine (len_any _ _ _ _ _ HX5.out).mono ?_
              rintro e w' ⟨rfl, rfl⟩
              go_wp2_with fail
              go_roundw
              case rel => exact ⟨k + 1, _, [], some ⟨gl, ol, none⟩, 0, by omega, by go_num, rfl, by simp, HS5.out, HX5.out, HOT.out, HB5.out, hK5⟩
              case measure => simp [intOf]; omega
            · rw [if_neg hd1] at hot
              have HOT := Lib.hid hot; clear hot
              go_wp2_with fail
              refine (len_any _ _ _ _ _ HX5.out).mono ?_
              rintro e w' ⟨rfl, rfl⟩
              go_wp2_with fail
              go_roundw
              case rel => exact ⟨k + 1, _, xs, some ⟨gl, ol + 1, none⟩, d - 1, by omega, by go_num, rfl, by simp at hxN; omega, HS5.out, HX5.out, HOT.out, HB5.out, hK5⟩
              case measure => simp [intOf]; omega
        · have b0 : (Kp.nx x0 p 7 == 0) = false := by rw [hv]; decide
          have b1 : (Kp.nx x0 p 7 == 1) = false := by rw [hv]; decide
          have b2 : (Kp.nx x0 p 7 == 2) = false := by rw [hv]; decide
          have b3 : (Kp.nx x0 p 7 == 3) = false := by rw [hv]; decide
          have b4 : (Kp.nx x0 p 7 == 4) = false := by rw [hv]; decide
          have b5 : (Kp.nx x0 p 7 == 5) = true := by rw [hv]; decide
          clear hv
          cases xs with
          | nil =>
            go_wp2_with fail
            refine (take_no _ _ _ _ HX4.out).mono ?_
            rintro e w' ⟨rfl, rfl⟩
            have he1 : ((0 : Int) == 0) = true := rfl
            go_wp2_with fail
            go_roundw
            case rel => exact ⟨k + 1, _, [], A, d, by omega, by go_num, rfl, by simp, HS4.out, HX4.out, HO4.out, HBW4.out, hK4⟩
            case measure => simp [intOf]; omega
          | cons t xs =>
            go_wp2_with fail
            refine (take_yes _ _ _ _ _ _ HX4.out).mono ?_
            rintro e w5 ⟨rfl, hx5, hg5⟩
            have HX5 := Lib.hid hx5
            have HS5 := Lib.hid (Bk.grown HS4.out hg5 (by simp; omega))
            have HO5 := Lib.hid (HO4.out.keep hg5 (fun q hq => by injection hq; omega))
            have HB5 := Lib.hid (HBW4.out.grown hg5 (by have := HBW4.out.size; have := HBB.out; omega) (fun q hq => by injection hq; omega))
            have hK5 : K ≤ w5.heap.size := by have := hg5.size; omega
            clear hx5 hg5
            obtain ⟨gl, ol, rfl, hct, hot⟩ := HO5.out.tail
            have hdc : xs.length + 1 ≤ d := HO5.out.2.1
            have hse : (t.toList == t.toList) = true := by simp
            have hne0 : (((xs.length : Int) + 1) == 0) = false := by rw [beq_eq_false_iff_ne]; omega
            by_cases hd1 : d = 1
            · subst hd1
              obtain rfl : xs = [] := List.eq_nil_of_length_eq_zero (by omega)
              rw [if_pos rfl] at hot
              have HOT := Lib.hid hot; clear hot
              go_wp2_with fail
              refine (len_any _ _ _ _ _ HX5.out).mono ?_
              rintro e w' ⟨rfl, rfl⟩
              go_wp2_with fail
              go_roundw
              case rel => exact ⟨k + 1, _, [], some ⟨gl, ol, none⟩, 0, by omega, by go_num, rfl, by simp, HS5.out, HX5.out, HOT.out, HB5.out, hK5⟩
              case measure => simp [intOf]; omega
            · rw [if_neg hd1] at hot
              have HOT := Lib.hid hot; clear hot
              go_wp2_with fail
              refine (len_any _ _ _ _ _ HX5.out).mono ?_
              rintro e w' ⟨rfl, rfl⟩
              go_wp2_with fail
              go_roundw
              case rel => exact ⟨k + 1, _, xs, some ⟨gl, ol + 1, none⟩, d - 1, by omega, by go_num, rfl, by simp at hxN; omega, HS5.out, HX5.out, HOT.out, HB5.out, hK5⟩
              case measure => simp [intOf]; omega
        · have b0 : (Kp.nx x0 p 7 == 0) = false := by rw [hv]; decide
          have b1 : (Kp.nx x0 p 7 == 1) = false := by rw [hv]; decide
          have b2 : (Kp.nx x0 p 7 == 2) = false := by rw [hv]; decide
          have b3 : (Kp.nx x0 p 7 == 3) = false := by rw [hv]; decide
          have b4 : (Kp.nx x0 p 7 == 4) = false := by rw [hv]; decide
          have b5 : (Kp.nx x0 p 7 == 5) = false := by rw [hv]; decide
          clear hv
          have HRb := Lib.hid (HR.out.below HBW4.out)
          have q0 := Kp.nx_lo x0 (Kp.ad x0 p) 4 (by omega); have q4 := Kp.nx_hi x0 (Kp.ad x0 p) 4 (by omega)
          go_wp2_with fail
          refine (next_any _ _ _ _ _ 4 (by omega) (by omega) B _ HS4.out HRb.out (by omega) HM.out).mono ?_
          rintro e w5 ⟨rfl, hs5, hg5⟩
          have HS5 := Lib.hid hs5
          have HX5 := Lib.hid (HX4.out.only hg5 (by simp; omega) (by simp; omega))
          have HO5 := Lib.hid (HO4.out.keep hg5 (fun q hq => by injection hq; omega))
          have HBW5 := Lib.hid (HBW4.out.grown hg5 (by have := HBW4.out.size; have := HBB.out; omega) (fun q hq => by injection hq; omega))
          have hK5 : K ≤ w5.heap.size := by have := hg5.size; omega
          clear hs5 hg5
          by_cases hz : Kp.nx x0 (Kp.ad x0 p) 4 = 0
          · have bz : (Kp.nx x0 (Kp.ad x0 p) 4 == 0) = true := by rw [beq_iff_eq]; exact hz
            clear hz
            go_wp2_with fail
            refine (drain_any _ _ _ _ _ HX5.out (by omega)).mono ?_
            rintro e w6 ⟨A6, d6, rfl, ho6, hx6, hg6⟩
            have HX6 := Lib.hid hx6
            have HS6 := Lib.hid (Bk.grown HS5.out hg6 (by simp; omega))
            have HO6 := Lib.hid (HO5.out.keep hg6 (fun q hq => by injection hq; omega))
            have HB6 := Lib.hid (HBW5.out.grown hg6 (by have := HBW5.out.size; have := HBB.out; omega) (fun q hq => by injection hq; omega))
            have hK6 : K ≤ w6.heap.size := by have := hg6.size; omega
            have HR6 := Lib.hid (Rd.of_own ho6)
            clear ho6 hx6 hg6
            go_wp2_with fail
            refine (sames_ok _ _ _ _ _ _ _ _ _ _ HR6.out HO6.out.rd (by unfold maxLen; omega) (by unfold maxLen; omega) rfl).mono ?_
            rintro e w7 ⟨rfl, m7, rfl⟩
            go_wp2_with fail
            refine (len_any _ _ _ [] _ (bx_drewN HX6.out m7)).mono ?_
            rintro e w' ⟨rfl, rfl⟩
            go_wp2_with fail
            go_roundw
            case rel => exact ⟨k + 1, _, [], none, 0, by omega, by go_num, rfl, by simp, HS6.out.drewN m7, bx_drewN HX6.out m7, OwnM.nil_ _ _, below_drewN HB6.out m7, by simpa using hK6⟩
            case measure => simp [intOf]; omega
          · have bz : (Kp.nx x0 (Kp.ad x0 p) 4 == 0) = false := by rw [beq_eq_false_iff_ne]; exact hz
            clear hz
            go_wp2_with fail
            refine (len_any _ _ _ _ _ HX5.out).mono ?_
            rintro e w' ⟨rfl, rfl⟩
            go_wp2_with fail
            go_roundw
            case rel => exact ⟨k + 1, _, xs, A, d, by omega, by go_num, rfl, by omega, HS5.out, HX5.out, HO5.out, HBW5.out, hK5⟩
            case measure => simp [intOf]; omega
      · go_wp2_with fail
        refine (left_any _ _ _ _ _ _ HS.out).mono ?_
        have hd : decide (p < x0.length) = false := by simpa using hp
        rw [hd]
        rintro e w1' ⟨rfl, m1', rfl⟩
        clear hd
        have HX' := Lib.hid (bx_drewN HX.out m1'); have HO' := Lib.hid (HO.out.drewN m1'); have HBW' := Lib.hid (below_drewN HBW.out m1')
        have hKr' : K ≤ (wr.drewN m1').heap.size := by simpa using hKr
        clear HX HO HBW HS hKr
        have HX := HX'; have HO := HO'; have HBW := HBW'; have hKr := hKr'
        clear HX' HO' HBW' hKr'
        generalize wr.drewN m1' = wr at *
        go_wp2_with fail
        refine (awake29_any _).mono ?_
        rintro e w5 ⟨rfl, hb5⟩
        have hga := HX.out.lt
        have HX5 := Lib.hid (HX.out.below hb5 hga.1 hga.2.1)
        have HO5 := Lib.hid (mid_below HO.out hb5)
        have HBW5 := Lib.hid (HBW.out.trans (hb5.mono (by have := HBW.out.size; have := HBB.out; omega)))
        clear hb5
        go_wp2_with fail
        refine (drain_any _ _ _ _ _ HX5.out (by omega)).mono ?_
        rintro e w6 ⟨A6, d6, rfl, ho6, hx6, hg6⟩
        have HX6 := Lib.hid hx6
        have HO6 := Lib.hid (HO5.out.keep hg6 (fun q hq => by injection hq; omega))
        have HR6 := Lib.hid (Rd.of_own ho6)
        have HBW6 := Lib.hid (HBW5.out.grown hg6 (by have := HBW5.out.size; have := HBB.out; omega) (fun q hq => by injection hq; omega))
        clear ho6 hx6 hg6
        go_wp2_with fail
        refine (sames_ok _ _ _ _ _ _ _ _ _ _ HR6.out HO6.out.rd (by unfold maxLen; omega) (by unfold maxLen; omega) rfl).mono ?_
        rintro e w7 ⟨rfl, m7, rfl⟩
        go_wp2_with fail
        refine (len_any _ _ _ [] _ (bx_drewN HX6.out m7)).mono ?_
        rintro e w' ⟨rfl, rfl⟩
        go_wp2
        go_ret
        exact ⟨rfl, below_drewN HBW6.out _⟩
    · go_wp2_with fail
      refine (awake29_any _).mono ?_
      rintro e w5 ⟨rfl, hb5⟩
      have hga := HX.out.lt
      have HX5 := Lib.hid (HX.out.below hb5 hga.1 hga.2.1)
      have HO5 := Lib.hid (mid_below HO.out hb5)
      have HBW5 := Lib.hid (HBW.out.trans (hb5.mono (by have := HBW.out.size; have := HBB.out; omega)))
      clear hb5
      go_wp2_with fail
      refine (drain_any _ _ _ _ _ HX5.out (by omega)).mono ?_
      rintro e w6 ⟨A6, d6, rfl, ho6, hx6, hg6⟩
      have HX6 := Lib.hid hx6
      have HO6 := Lib.hid (HO5.out.keep hg6 (fun q hq => by injection hq; omega))
      have HR6 := Lib.hid (Rd.of_own ho6)
      have HBW6 := Lib.hid (HBW5.out.grown hg6 (by have := HBW5.out.size; have := HBB.out; omega) (fun q hq => by injection hq; omega))
      clear ho6 hx6 hg6
      go_wp2_with fail
      refine (sames_ok _ _ _ _ _ _ _ _ _ _ HR6.out HO6.out.rd (by unfold maxLen; omega) (by unfold maxLen; omega) rfl).mono ?_
      rintro e w7 ⟨rfl, m7, rfl⟩
      go_wp2_with fail
      refine (len_any _ _ _ [] _ (bx_drewN HX6.out m7)).mono ?_
      rintro e w' ⟨rfl, rfl⟩
      go_wp2
      go_ret
      exact ⟨rfl, below_drewN HBW6.out _⟩
end Go.Proofs.Ytnckclbgpoankaa
