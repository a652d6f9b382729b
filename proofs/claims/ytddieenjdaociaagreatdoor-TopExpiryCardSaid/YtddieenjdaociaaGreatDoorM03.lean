/- The walks of the functions on Hangul syllables that only compute with numbers: Parts, Kind, Compose and their references. The walk of keep.Pick: it returns the arithmetic 'Kp.pick'. The walks of Compose on Hangul and of its reference; of the reference's Parts, which looks through all pairs; of 'near'. -/
import Derived.Test.YtddieenjdaociaaGreatDoorProg
import Derived.Test.YtddieenjdaociaaGreatDoorM02
import Derived.Test.YtddieenjdaociaaGreatDoorM01
namespace Go.Proofs.YtddieenjdaociaaGreatDoor
open Go Go.RowKit

set_option maxHeartbeats 400000 in
theorem hparts_any (c : Int) (w : World) :
    Calls Tryz.prog 249 #[.int .i64 c] w fun e w' => e = .returned (.tuple #[.int .i64 (Hg.pI c), .int .i64 (Hg.pJ c), .int .i64 (Hg.pK c), .bool (Hg.syl c)]) ∧ w = w' := by
  by_cases h : Hg.syl c = true
  · have hh := (Hg.syl_iff c).1 h
    have e1 : Hg.pI c = (c - 44032) / 28 / 21 := by unfold Hg.pI; rw [if_pos h]
    have e2 : Hg.pJ c = (c - 44032) / 28 % 21 := by unfold Hg.pJ; rw [if_pos h]
    have e3 : Hg.pK c = (c - 44032) % 28 := by unfold Hg.pK; rw [if_pos h]
    rw [h, e1, e2, e3]
    clear h e1 e2 e3
    obtain ⟨h1, h2⟩ := hh
    go_enter Tryz.func249, Tryz.ntmps249
    go_wp2
    refine bodyPost_ret (results_four rfl _ _ _) rfl ?_
    exact ⟨rfl, rfl⟩
  · have hn : Hg.syl c = false := by simpa using h
    have hh := (Hg.syl_no c).1 hn
    have e1 : Hg.pI c = 0 := by unfold Hg.pI; rw [if_neg h]
    have e2 : Hg.pJ c = 0 := by unfold Hg.pJ; rw [if_neg h]
    have e3 : Hg.pK c = 0 := by unfold Hg.pK; rw [if_neg h]
    rw [hn, e1, e2, e3]
    clear h e1 e2 e3 hn
    rcases hh with hh | hh
    · go_enter Tryz.func249, Tryz.ntmps249
      go_wp2
      refine bodyPost_ret (results_four rfl _ _ _) rfl ?_
      exact ⟨rfl, rfl⟩
    · have h3 : ¬ c < 44032 := by omega
      go_enter Tryz.func249, Tryz.ntmps249
      go_wp2
      refine bodyPost_ret (results_four rfl _ _ _) rfl ?_
      exact ⟨rfl, rfl⟩

set_option maxHeartbeats 400000 in
theorem hkind_any (c : Int) (w : World) :
    Calls Tryz.prog 237 #[.int .i64 c] w fun e w' => e = .returned (.int .i64 (Hg.kind c)) ∧ w = w' := by
  by_cases hs : Hg.syl c = true
  · by_cases hk : Hg.pK c = 0
    · have e1 : Hg.kind c = 4 := by
        have := (Hg.syl_iff c).1 hs
        rw [Hg.kind4]; refine ⟨this, ?_⟩; unfold Hg.pK at hk; rw [if_pos hs] at hk; exact hk
      have hb : (Hg.pK c == 0) = true := by rw [beq_iff_eq]; exact hk
      rw [e1]; clear e1 hk
      go_enter Tryz.func237, Tryz.ntmps237
      go_wp2_with (go_at_call 249; refine (hparts_any _ _).mono ?_; rintro e w' ⟨rfl, rfl⟩)
      go_ret
      exact ⟨rfl, rfl⟩
    · have e1 : Hg.kind c = 5 := by
        have := (Hg.syl_iff c).1 hs
        rw [Hg.kind5]; refine ⟨this, ?_⟩; unfold Hg.pK at hk; rw [if_pos hs] at hk; exact hk
      have hb : (Hg.pK c == 0) = false := by rw [beq_eq_false_iff_ne]; exact hk
      rw [e1]; clear e1 hk
      go_enter Tryz.func237, Tryz.ntmps237
      go_wp2_with (go_at_call 249; refine (hparts_any _ _).mono ?_; rintro e w' ⟨rfl, rfl⟩)
      go_ret
      exact ⟨rfl, rfl⟩
  · have hn : Hg.syl c = false := by simpa using hs
    have hd := (Hg.syl_no c).1 hn
    clear hs
    rcases (show c < 4352 ∨ (4352 ≤ c ∧ c < 4371) ∨ (4371 ≤ c ∧ c < 4449) ∨ (4449 ≤ c ∧ c < 4470) ∨ (4470 ≤ c ∧ c ≤ 4519) ∨ (4519 < c ∧ c < 4547) ∨ 4547 ≤ c from by omega) with h | ⟨h, h'⟩ | ⟨h, h'⟩ | ⟨h, h'⟩ | ⟨h, h'⟩ | ⟨h, h'⟩ | h
    all_goals
      have e1 : Hg.kind c = (if 4352 ≤ c ∧ c < 4371 then 1 else if 4449 ≤ c ∧ c < 4470 then 2 else if 4519 < c ∧ c < 4547 then 3 else 0) := by
        unfold Hg.kind; rw [if_neg (by rw [hn]; decide)]
      first
        | rw [if_pos (by omega)] at e1
        | rw [if_neg (by omega), if_pos (by omega)] at e1
        | rw [if_neg (by omega), if_neg (by omega), if_pos (by omega)] at e1
        | rw [if_neg (by omega), if_neg (by omega), if_neg (by omega)] at e1
      rw [e1]; clear e1 hd
      go_enter Tryz.func237, Tryz.ntmps237
      go_wp2_with (go_at_call 249; refine (hparts_any _ _).mono ?_; rintro e w' ⟨rfl, rfl⟩)
      go_ret
      exact ⟨rfl, rfl⟩

end Go.Proofs.YtddieenjdaociaaGreatDoor
namespace Go.Proofs.YtddieenjdaociaaGreatDoor
open Go Go.RowKit

theorem pick_eq (v n : Int) (h1 : 1 ≤ n) (h2 : n ≤ 9223372036854775807) : wrap64 ((IntKind.u64.wrap v).tmod n) = Kp.pick v n := by
  rw [IntKind.wrap_u64]
  have h0 : 0 ≤ v % 18446744073709551616 := by omega
  rw [Int.tmod_eq_emod_of_nonneg h0]
  have hlo := Kp.pick_lo v n h1
  have hhi := Kp.pick_hi v n h1
  unfold Kp.pick at *
  exact IntWalk.wrap64_in _ ⟨by omega, by omega⟩

set_option maxHeartbeats 400000 in
theorem pick_any (v n : Int) (h1 : 1 ≤ n) (h2 : n ≤ 9223372036854775807) (w : World) :
    Calls Tryz.prog 5 #[.int .i64 v, .int .i64 n] w fun e w' => e = .returned (.int .i64 (Kp.pick v n)) ∧ w = w' := by
  go_enter Tryz.func5, Tryz.ntmps5
  go_wp2
  go_ret
  exact ⟨by rw [← pick_eq v n h1 h2]; rfl, rfl⟩
end Go.Proofs.YtddieenjdaociaaGreatDoor
namespace Go.Proofs.YtddieenjdaociaaGreatDoor
open Go Go.RowKit

set_option maxHeartbeats 400000 in
theorem hcomp_any (a b : Int) (w : World) :
    Calls Tryz.prog 223 #[.int .i64 a, .int .i64 b] w fun e w' => e = .returned (.tuple #[.int .i64 (Hg.comp a b), .bool (Hg.compOk a b)]) ∧ w = w' := by
  by_cases h1 : Hg.lv a b = true
  · have hh := (Hg.lv_iff a b).1 h1
    have e1 : Hg.comp a b = 44032 + ((a - 4352) * 21 + b - 4449) * 28 := by unfold Hg.comp; rw [if_pos h1]
    have e2 : Hg.compOk a b = true := by unfold Hg.compOk; rw [h1]; rfl
    have k1 : (Hg.kind a == 1) = true := by rw [beq_iff_eq, Hg.kind1]; omega
    have k2 : (Hg.kind b == 2) = true := by rw [beq_iff_eq, Hg.kind2]; omega
    rw [e1, e2]; clear e1 e2 h1
    obtain ⟨⟨ha1, ha2⟩, hb1, hb2⟩ := hh
    go_enter Tryz.func223, Tryz.ntmps223
    go_wp2_with (go_at_call 237; refine (hkind_any _ _).mono ?_; rintro e w' ⟨rfl, rfl⟩)
    go_ret2
    exact ⟨rfl, rfl⟩
  · have h1' : Hg.lv a b = false := by simpa using h1
    by_cases h2 : Hg.lvt a b = true
    · have hh := (Hg.lvt_iff a b).1 h2
      have e1 : Hg.comp a b = a + b - 4519 := by unfold Hg.comp; rw [if_neg h1, if_pos h2]
      have e2 : Hg.compOk a b = true := by unfold Hg.compOk; rw [h2]; simp
      have k1 : (Hg.kind a == 1) = false := by rw [beq_eq_false_iff_ne, Ne, Hg.kind1]; omega
      have k4 : (Hg.kind a == 4) = true := by rw [beq_iff_eq, Hg.kind4]; omega
      have k3 : (Hg.kind b == 3) = true := by rw [beq_iff_eq, Hg.kind3]; omega
      rw [e1, e2]; clear e1 e2 h1 h1' h2
      obtain ⟨⟨⟨ha1, ha2⟩, _⟩, hb1, hb2⟩ := hh
      go_enter Tryz.func223, Tryz.ntmps223
      go_wp2_with (go_at_call 237; refine (hkind_any _ _).mono ?_; rintro e w' ⟨rfl, rfl⟩)
      go_ret2
      exact ⟨rfl, rfl⟩
    · have h2' : Hg.lvt a b = false := by simpa using h2
      have e1 : Hg.comp a b = 0 := by unfold Hg.comp; rw [if_neg h1, if_neg h2]
      have e2 : Hg.compOk a b = false := by unfold Hg.compOk; rw [h1', h2']; rfl
      rw [e1, e2]; clear e1 e2 h1 h2
      by_cases ka : Hg.kind a = 1
      · have k1 : (Hg.kind a == 1) = true := by rw [beq_iff_eq]; exact ka
        have k4 : (Hg.kind a == 4) = false := by rw [ka]; decide
        have k2 : (Hg.kind b == 2) = false := by
          rw [beq_eq_false_iff_ne]; intro hb; unfold Hg.lv at h1'; rw [ka, hb] at h1'; cases h1'
        clear ka h1' h2'
        go_enter Tryz.func223, Tryz.ntmps223
        go_wp2_with (go_at_call 237; refine (hkind_any _ _).mono ?_; rintro e w' ⟨rfl, rfl⟩)
        go_ret2
        exact ⟨rfl, rfl⟩
      · have k1 : (Hg.kind a == 1) = false := by rw [beq_eq_false_iff_ne]; exact ka
        by_cases kb : Hg.kind a = 4
        · have k4 : (Hg.kind a == 4) = true := by rw [beq_iff_eq]; exact kb
          have k3 : (Hg.kind b == 3) = false := by
            rw [beq_eq_false_iff_ne]; intro hb; unfold Hg.lvt at h2'; rw [kb, hb] at h2'; cases h2'
          clear ka kb h1' h2'
          go_enter Tryz.func223, Tryz.ntmps223
          go_wp2_with (go_at_call 237; refine (hkind_any _ _).mono ?_; rintro e w' ⟨rfl, rfl⟩)
          go_ret2
          exact ⟨rfl, rfl⟩
        · have k4 : (Hg.kind a == 4) = false := by rw [beq_eq_false_iff_ne]; exact kb
          clear ka kb h1' h2'
          go_enter Tryz.func223, Tryz.ntmps223
          go_wp2_with (go_at_call 237; refine (hkind_any _ _).mono ?_; rintro e w' ⟨rfl, rfl⟩)
          go_ret2
          exact ⟨rfl, rfl⟩

def SomeInt (w : World) (e : Ending) (w' : World) : Prop := ∃ c : Int, e = .returned (.int .i64 c) ∧ w = w'
end Go.Proofs.YtddieenjdaociaaGreatDoor
