/- The walks of Compose on Hangul and of its reference; of the reference's Parts, which looks through all pairs; of 'near'. -/
import Derived.Test.YtnckclbgpoankaaHangul
import Derived.Test.YtnckclbgpoankaaPick
namespace Go.Proofs.Ytnckclbgpoankaa
open Go Go.RowKit

set_option maxHeartbeats 400000 in
theorem hcomp_any (a b : Int) (w : World) :
    Calls Try.prog 37 #[.int .i64 a, .int .i64 b] w fun e w' => e = .returned (.tuple #[.int .i64 (Hg.comp a b), .bool (Hg.compOk a b)]) ∧ w = w' := by
  by_cases h1 : Hg.lv a b = true
  · have hh := (Hg.lv_iff a b).1 h1
    have e1 : Hg.comp a b = 44032 + ((a - 4352) * 21 + b - 4449) * 28 := by unfold Hg.comp; rw [if_pos h1]
    have e2 : Hg.compOk a b = true := by unfold Hg.compOk; rw [h1]; rfl
    have k1 : (Hg.kind a == 1) = true := by rw [beq_iff_eq, Hg.kind1]; omega
    have k2 : (Hg.kind b == 2) = true := by rw [beq_iff_eq, Hg.kind2]; omega
    rw [e1, e2]; clear e1 e2 h1
    obtain ⟨⟨ha1, ha2⟩, hb1, hb2⟩ := hh
    go_enter Try.func37, Try.ntmps37
    go_wp2_with (go_at_call 32; refine (hkind_any _ _).mono ?_; rintro e w' ⟨rfl, rfl⟩)
    go_ret2
    exact ⟨rfl, rfl⟩
  · have h1' : Hg.lv a b = false := by simpa using h1
    by_cases h2 : Hg.lvt a b = true
    · have hh := (Hg.lvt_iff a b).1 h2
      have e1 : Hg.comp a b = a + b - 4519 := by unfold Hg.comp; rw [if_neg h1, if_pos h2]
      have e2 : Hg.compOk a b = true := by unfold Hg.compOk; rw [h2]; simp
      have k1 : (Hg.kind a == 1) = false := by rw [beq_eq_false_iff_ne, Ne, Hg.kind1]; omega
      have k4 : (Hg.kind a == 4) = true := by rw [beq_iff_eq, Hg.kind4]; omega
      have k3 : (Hg.kind b == 3) = true := by rw [beq_iff_eq, Hg.kind3]; omega
      rw [e1, e2]; clear e1 e2 h1 h1' h2
      obtain ⟨⟨⟨ha1, ha2⟩, _⟩, hb1, hb2⟩ := hh
      go_enter Try.func37, Try.ntmps37
      go_wp2_with (go_at_call 32; refine (hkind_any _ _).mono ?_; rintro e w' ⟨rfl, rfl⟩)
      go_ret2
      exact ⟨rfl, rfl⟩
    · have h2' : Hg.lvt a b = false := by simpa using h2
      have e1 : Hg.comp a b = 0 := by unfold Hg.comp; rw [if_neg h1, if_neg h2]
      have e2 : Hg.compOk a b = false := by unfold Hg.compOk; rw [h1', h2']; rfl
      rw [e1, e2]; clear e1 e2 h1 h2
      by_cases ka : Hg.kind a = 1
      · have k1 : (Hg.kind a == 1) = true := by rw [beq_iff_eq]; exact ka
        have k4 : (Hg.kind a == 4) = false := by rw [ka]; decide
        have k2 : (Hg.kind b == 2) = false := by
          rw [beq_eq_false_iff_ne]; intro hb; unfold Hg.lv at h1'; rw [ka, hb] at h1'; cases h1'
        clear ka h1' h2'
        go_enter Try.func37, Try.ntmps37
        go_wp2_with (go_at_call 32; refine (hkind_any _ _).mono ?_; rintro e w' ⟨rfl, rfl⟩)
        go_ret2
        exact ⟨rfl, rfl⟩
      · have k1 : (Hg.kind a == 1) = false := by rw [beq_eq_false_iff_ne]; exact ka
        by_cases kb : Hg.kind a = 4
        · have k4 : (Hg.kind a == 4) = true := by rw [beq_iff_eq]; exact kb
          have k3 : (Hg.kind b == 3) = false := by
            rw [beq_eq_false_iff_ne]; intro hb; unfold Hg.lvt at h2'; rw [kb, hb] at h2'; cases h2'
          clear ka kb h1' h2'
          go_enter Try.func37, Try.ntmps37
          go_wp2_with (go_at_call 32; refine (hkind_any _ _).mono ?_; rintro e w' ⟨rfl, rfl⟩)
          go_ret2
          exact ⟨rfl, rfl⟩
        · have k4 : (Hg.kind a == 4) = false := by rw [beq_eq_false_iff_ne]; exact kb
          clear ka kb h1' h2'
          go_enter Try.func37, Try.ntmps37
          go_wp2_with (go_at_call 32; refine (hkind_any _ _).mono ?_; rintro e w' ⟨rfl, rfl⟩)
          go_ret2
          exact ⟨rfl, rfl⟩

set_option maxHeartbeats 400000 in
theorem rcomp_any (a b : Int) (w : World) :
    Calls Try.prog 38 #[.int .i64 a, .int .i64 b] w fun e w' => e = .returned (.tuple #[.int .i64 (Hg.comp a b), .bool (Hg.compOk a b)]) ∧ w = w' := by
  by_cases h1 : Hg.lv a b = true
  · have hh := (Hg.lv_iff a b).1 h1
    have e1 : Hg.comp a b = 44032 + (21 * (a - 4352) + b - 4449) * 28 := by unfold Hg.comp; rw [if_pos h1]; omega
    have e2 : Hg.compOk a b = true := by unfold Hg.compOk; rw [h1]; rfl
    have k1 : (Hg.kind a == 1) = true := by rw [beq_iff_eq, Hg.kind1]; omega
    have k2 : (Hg.kind b == 2) = true := by rw [beq_iff_eq, Hg.kind2]; omega
    rw [e1, e2]; clear e1 e2 h1
    obtain ⟨⟨ha1, ha2⟩, hb1, hb2⟩ := hh
    go_enter Try.func38, Try.ntmps38
    go_wp2_with (go_at_call 33; refine (rkind_any _ _).mono ?_; rintro e w' ⟨rfl, rfl⟩)
    go_ret2
    exact ⟨rfl, rfl⟩
  · have h1' : Hg.lv a b = false := by simpa using h1
    by_cases h2 : Hg.lvt a b = true
    · have hh := (Hg.lvt_iff a b).1 h2
      have e1 : Hg.comp a b = a + b - 4519 := by unfold Hg.comp; rw [if_neg h1, if_pos h2]
      have e2 : Hg.compOk a b = true := by unfold Hg.compOk; rw [h2]; simp
      have k1 : (Hg.kind a == 1) = false := by rw [beq_eq_false_iff_ne, Ne, Hg.kind1]; omega
      have k4 : (Hg.kind a == 4) = true := by rw [beq_iff_eq, Hg.kind4]; omega
      have k3 : (Hg.kind b == 3) = true := by rw [beq_iff_eq, Hg.kind3]; omega
      rw [e1, e2]; clear e1 e2 h1 h1' h2
      obtain ⟨⟨⟨ha1, ha2⟩, _⟩, hb1, hb2⟩ := hh
      go_enter Try.func38, Try.ntmps38
      go_wp2_with (go_at_call 33; refine (rkind_any _ _).mono ?_; rintro e w' ⟨rfl, rfl⟩)
      go_ret2
      exact ⟨rfl, rfl⟩
    · have h2' : Hg.lvt a b = false := by simpa using h2
      have e1 : Hg.comp a b = 0 := by unfold Hg.comp; rw [if_neg h1, if_neg h2]
      have e2 : Hg.compOk a b = false := by unfold Hg.compOk; rw [h1', h2']; rfl
      rw [e1, e2]; clear e1 e2 h1 h2
      by_cases ka : Hg.kind a = 1
      · have k1 : (Hg.kind a == 1) = true := by rw [beq_iff_eq]; exact ka
        have k4 : (Hg.kind a == 4) = false := by rw [ka]; decide
        have k2 : (Hg.kind b == 2) = false := by
          rw [beq_eq_false_iff_ne]; intro hb; unfold Hg.lv at h1'; rw [ka, hb] at h1'; cases h1'
        clear ka h1' h2'
        go_enter Try.func38, Try.ntmps38
        go_wp2_with (go_at_call 33; refine (rkind_any _ _).mono ?_; rintro e w' ⟨rfl, rfl⟩)
        go_ret2
        exact ⟨rfl, rfl⟩
      · have k1 : (Hg.kind a == 1) = false := by rw [beq_eq_false_iff_ne]; exact ka
        by_cases kb : Hg.kind a = 4
        · have k4 : (Hg.kind a == 4) = true := by rw [beq_iff_eq]; exact kb
          have k3 : (Hg.kind b == 3) = false := by
            rw [beq_eq_false_iff_ne]; intro hb; unfold Hg.lvt at h2'; rw [kb, hb] at h2'; cases h2'
          clear ka kb h1' h2'
          go_enter Try.func38, Try.ntmps38
          go_wp2_with (go_at_call 33; refine (rkind_any _ _).mono ?_; rintro e w' ⟨rfl, rfl⟩)
          go_ret2
          exact ⟨rfl, rfl⟩
        · have k4 : (Hg.kind a == 4) = false := by rw [beq_eq_false_iff_ne]; exact kb
          clear ka kb h1' h2'
          go_enter Try.func38, Try.ntmps38
          go_wp2_with (go_at_call 33; refine (rkind_any _ _).mono ?_; rintro e w' ⟨rfl, rfl⟩)
          go_ret2
          exact ⟨rfl, rfl⟩

set_option maxHeartbeats 1000000 in
theorem rparts_any (c : Int) (w : World) :
    Calls Try.prog 30 #[.int .i64 c] w fun e w' => e = .returned (.tuple #[.int .i64 (Hg.pI c), .int .i64 (Hg.pJ c), .int .i64 (Hg.pK c), .bool (Hg.syl c)]) ∧ w = w' := by
  by_cases hs : Hg.syl c = true
  · obtain ⟨⟨i0, i1⟩, ⟨j0, j1⟩, ⟨k0, k1⟩, hc⟩ := Hg.parts_bd c hs
    rw [hs]
    generalize Hg.pI c = I at *
    generalize Hg.pJ c = J at *
    generalize Hg.pK c = K at *
    have Hc := Lib.hid hc; clear hc
    have hlo : 44032 ≤ c := by have := Hc.out; omega
    have hhi : c < 55204 := by have := Hc.out; omega
    go_enter Try.func30, Try.ntmps30
    go_wp2
    go_loop [6] (fun i => ∃ p : Nat, (p : Int) ≤ I ∧ i = .int .i64 p) (fun i => (20 - intOf i).toNat)
    case atStart => exact ⟨0, by omega, rfl⟩
    case round =>
      obtain ⟨p, hp, rfl⟩ := hrel
      have hp19 : (p : Int) < 19 := by omega
      go_wp2
      go_loop [7] (fun j => ∃ q : Nat, (q : Int) ≤ 21 ∧ ((p : Int) = I → (q : Int) ≤ J) ∧ j = .int .i64 q) (fun j => (22 - intOf j).toNat)
      case atStart => exact ⟨0, by omega, fun _ => by omega, rfl⟩
      case round =>
        obtain ⟨q, hq, hqj, rfl⟩ := hrel
        have Hq := Lib.hid hqj; clear hqj
        by_cases hq21 : (q : Int) < 21
        · by_cases hlt : 28 ≤ c - 44032 - (21 * (p : Int) + (q : Int)) * 28
          · have hno : ¬ c - 44032 - (21 * (p : Int) + (q : Int)) * 28 < 28 := by omega
            have hge : 0 ≤ c - 44032 - (21 * (p : Int) + (q : Int)) * 28 := by omega
            go_wp2_with (go_at_call 43; refine (rsyl_any _ _).mono ?_; rintro e w' ⟨rfl, rfl⟩)
            go_round
            case rel => exact ⟨q + 1, by omega, fun h => by have := Hc.out; have := Hq.out h; omega, by go_num⟩
            case measure => simp [intOf]; omega
          · have hI : (p : Int) = I := by have := Hc.out; omega
            have hJ : (q : Int) = J := by have := Hc.out; have := Hq.out hI; omega
            have hK : c - 44032 - (21 * (p : Int) + (q : Int)) * 28 = K := by have := Hc.out; omega
            have HK := Lib.hid hK; clear hK
            have HI := Lib.hid hI; clear hI
            have HJ := Lib.hid hJ; clear hJ
            have hge : 0 ≤ c - 44032 - (21 * (p : Int) + (q : Int)) * 28 := by have := HK.out; omega
            have hyes : c - 44032 - (21 * (p : Int) + (q : Int)) * 28 < 28 := by omega
            go_wp2_with (go_at_call 43; refine (rsyl_any _ _).mono ?_; rintro e w' ⟨rfl, rfl⟩)
            refine bodyPost_ret (results_four rfl _ _ _) rfl ?_
            rw [← HK.out, ← HI.out, ← HJ.out]
            exact ⟨rfl, rfl⟩
        · have hpI : (p : Int) < I := by
            have := Hc.out
            rcases Int.lt_or_eq_of_le hp with h | h
            · exact h
            · have := Hq.out h; omega
          go_wp2
          go_round
          case rel => exact ⟨p + 1, by omega, by go_num⟩
          case measure => simp [intOf]; omega
  · have hn : Hg.syl c = false := by simpa using hs
    have e1 : Hg.pI c = 0 := by unfold Hg.pI; rw [if_neg hs]
    have e2 : Hg.pJ c = 0 := by unfold Hg.pJ; rw [if_neg hs]
    have e3 : Hg.pK c = 0 := by unfold Hg.pK; rw [if_neg hs]
    rw [hn, e1, e2, e3]; clear e1 e2 e3 hs
    go_enter Try.func30, Try.ntmps30
    go_wp2
    go_loop [6] (fun i => ∃ p : Nat, (p : Int) ≤ 19 ∧ i = .int .i64 p) (fun i => (20 - intOf i).toNat)
    case atStart => exact ⟨0, by omega, rfl⟩
    case round =>
      obtain ⟨p, hp, rfl⟩ := hrel
      by_cases hp19 : (p : Int) < 19
      · go_wp2
        go_loop [7] (fun j => ∃ q : Nat, (q : Int) ≤ 21 ∧ j = .int .i64 q) (fun j => (22 - intOf j).toNat)
        case atStart => exact ⟨0, by omega, rfl⟩
        case round =>
          obtain ⟨q, hq, rfl⟩ := hrel
          by_cases hq21 : (q : Int) < 21
          · go_wp2_with (go_at_call 43; refine (rsyl_any _ _).mono ?_; rintro e w' ⟨rfl, rfl⟩)
            go_round
            case rel => exact ⟨q + 1, by omega, by go_num⟩
            case measure => simp [intOf]; omega
          · go_wp2
            go_round
            case rel => exact ⟨p + 1, by omega, by go_num⟩
            case measure => simp [intOf]; omega
      · go_wp2
        refine bodyPost_ret (results_four rfl _ _ _) rfl ?_
        exact ⟨rfl, rfl⟩

def SomeInt (w : World) (e : Ending) (w' : World) : Prop := ∃ c : Int, e = .returned (.int .i64 c) ∧ w = w'
set_option maxHeartbeats 400000 in
theorem near_any (v : Int) (w : World) : Calls Try.prog 28 #[.int .i64 v] w (SomeInt w) := by
  have l0 := Kp.pick_lo v 8 (by omega)
  have l1 := Kp.pick_hi v 8 (by omega)
  rcases (show Kp.pick v 8 = 0 ∨ Kp.pick v 8 = 1 ∨ Kp.pick v 8 = 2 ∨ 3 ≤ Kp.pick v 8 from by omega) with h | h | h | h
  · have b0 : (Kp.pick v 8 == 0) = true := by rw [beq_iff_eq]; exact h
    clear h
    go_enter Try.func28, Try.ntmps28
    go_wp2_with (go_at_call 15; refine (pick_any _ _ (by omega) (by omega) _).mono ?_; rintro e w' ⟨rfl, rfl⟩)
    go_ret
    exact ⟨_, rfl, rfl⟩
  · have b0 : (Kp.pick v 8 == 0) = false := by rw [h]; decide
    have b1 : (Kp.pick v 8 == 1) = true := by rw [beq_iff_eq]; exact h
    clear h
    go_enter Try.func28, Try.ntmps28
    go_wp2_with (go_at_call 15; refine (pick_any _ _ (by omega) (by omega) _).mono ?_; rintro e w' ⟨rfl, rfl⟩)
    go_ret
    exact ⟨_, rfl, rfl⟩
  · have b0 : (Kp.pick v 8 == 0) = false := by rw [h]; decide
    have b1 : (Kp.pick v 8 == 1) = false := by rw [h]; decide
    have b2 : (Kp.pick v 8 == 2) = true := by rw [beq_iff_eq]; exact h
    clear h
    go_enter Try.func28, Try.ntmps28
    go_wp2_with (go_at_call 15; refine (pick_any _ _ (by omega) (by omega) _).mono ?_; rintro e w' ⟨rfl, rfl⟩)
    go_ret
    exact ⟨_, rfl, rfl⟩
  · have b0 : (Kp.pick v 8 == 0) = false := by rw [beq_eq_false_iff_ne]; omega
    have b1 : (Kp.pick v 8 == 1) = false := by rw [beq_eq_false_iff_ne]; omega
    have b2 : (Kp.pick v 8 == 2) = false := by rw [beq_eq_false_iff_ne]; omega
    go_enter Try.func28, Try.ntmps28
    go_wp2_with (go_at_call 15; refine (pick_any _ _ (by omega) (by omega) _).mono ?_; rintro e w' ⟨rfl, rfl⟩)
    go_ret
    exact ⟨_, rfl, rfl⟩
end Go.Proofs.Ytnckclbgpoankaa
