/- The walks of the functions on Hangul syllables that only compute with numbers: Parts, Kind, Compose and their references. -/
import Derived.Test.YtnckclbgpoankaaProg
import Derived.Test.YtnckclbgpoankaaBase
import Derived.Test.YtnckclbgpoankaaHgMath
namespace Go.Proofs.Ytnckclbgpoankaa
open Go Go.RowKit

set_option maxHeartbeats 400000 in
theorem hparts_any (c : Int) (w : World) :
    Calls Try.prog 29 #[.int .i64 c] w fun e w' => e = .returned (.tuple #[.int .i64 (Hg.pI c), .int .i64 (Hg.pJ c), .int .i64 (Hg.pK c), .bool (Hg.syl c)]) ∧ w = w' := by
  by_cases h : Hg.syl c = true
  · have hh := (Hg.syl_iff c).1 h
    have e1 : Hg.pI c = (c - 44032) / 28 / 21 := by unfold Hg.pI; rw [if_pos h]
    have e2 : Hg.pJ c = (c - 44032) / 28 % 21 := by unfold Hg.pJ; rw [if_pos h]
    have e3 : Hg.pK c = (c - 44032) % 28 := by unfold Hg.pK; rw [if_pos h]
    rw [h, e1, e2, e3]
    clear h e1 e2 e3
    obtain ⟨h1, h2⟩ := hh
    go_enter Try.func29, Try.ntmps29
    go_wp2
    refine bodyPost_ret (results_four rfl _ _ _) rfl ?_
    exact ⟨rfl, rfl⟩
  · have hn : Hg.syl c = false := by simpa using h
    have hh := (Hg.syl_no c).1 hn
    have e1 : Hg.pI c = 0 := by unfold Hg.pI; rw [if_neg h]
    have e2 : Hg.pJ c = 0 := by unfold Hg.pJ; rw [if_neg h]
    have e3 : Hg.pK c = 0 := by unfold Hg.pK; rw [if_neg h]
    rw [hn, e1, e2, e3]
    clear h e1 e2 e3 hn
    rcases hh with hh | hh
    · go_enter Try.func29, Try.ntmps29
      go_wp2
      refine bodyPost_ret (results_four rfl _ _ _) rfl ?_
      exact ⟨rfl, rfl⟩
    · have h3 : ¬ c < 44032 := by omega
      go_enter Try.func29, Try.ntmps29
      go_wp2
      refine bodyPost_ret (results_four rfl _ _ _) rfl ?_
      exact ⟨rfl, rfl⟩

set_option maxHeartbeats 400000 in
theorem hkind_any (c : Int) (w : World) :
    Calls Try.prog 32 #[.int .i64 c] w fun e w' => e = .returned (.int .i64 (Hg.kind c)) ∧ w = w' := by
  by_cases hs : Hg.syl c = true
  · by_cases hk : Hg.pK c = 0
    · have e1 : Hg.kind c = 4 := by
        have := (Hg.syl_iff c).1 hs
        rw [Hg.kind4]; refine ⟨this, ?_⟩; unfold Hg.pK at hk; rw [if_pos hs] at hk; exact hk
      have hb : (Hg.pK c == 0) = true := by rw [beq_iff_eq]; exact hk
      rw [e1]; clear e1 hk
      go_enter Try.func32, Try.ntmps32
      go_wp2_with (go_at_call 29; refine (hparts_any _ _).mono ?_; rintro e w' ⟨rfl, rfl⟩)
      go_ret
      exact ⟨rfl, rfl⟩
    · have e1 : Hg.kind c = 5 := by
        have := (Hg.syl_iff c).1 hs
        rw [Hg.kind5]; refine ⟨this, ?_⟩; unfold Hg.pK at hk; rw [if_pos hs] at hk; exact hk
      have hb : (Hg.pK c == 0) = false := by rw [beq_eq_false_iff_ne]; exact hk
      rw [e1]; clear e1 hk
      go_enter Try.func32, Try.ntmps32
      go_wp2_with (go_at_call 29; refine (hparts_any _ _).mono ?_; rintro e w' ⟨rfl, rfl⟩)
      go_ret
      exact ⟨rfl, rfl⟩
  · have hn : Hg.syl c = false := by simpa using hs
    have hd := (Hg.syl_no c).1 hn
    clear hs
    rcases (show c < 4352 ∨ (4352 ≤ c ∧ c < 4371) ∨ (4371 ≤ c ∧ c < 4449) ∨ (4449 ≤ c ∧ c < 4470) ∨ (4470 ≤ c ∧ c ≤ 4519) ∨ (4519 < c ∧ c < 4547) ∨ 4547 ≤ c from by omega) with h | ⟨h, h'⟩ | ⟨h, h'⟩ | ⟨h, h'⟩ | ⟨h, h'⟩ | ⟨h, h'⟩ | h
    all_goals
      have e1 : Hg.kind c = (if 4352 ≤ c ∧ c < 4371 then 1 else if 4449 ≤ c ∧ c < 4470 then 2 else if 4519 < c ∧ c < 4547 then 3 else 0) := by
        unfold Hg.kind; rw [if_neg (by rw [hn]; decide)]
      first
        | rw [if_pos (by omega)] at e1
        | rw [if_neg (by omega), if_pos (by omega)] at e1
        | rw [if_neg (by omega), if_neg (by omega), if_pos (by omega)] at e1
        | rw [if_neg (by omega), if_neg (by omega), if_neg (by omega)] at e1
      rw [e1]; clear e1 hd
      go_enter Try.func32, Try.ntmps32
      go_wp2_with (go_at_call 29; refine (hparts_any _ _).mono ?_; rintro e w' ⟨rfl, rfl⟩)
      go_ret
      exact ⟨rfl, rfl⟩

set_option maxHeartbeats 400000 in
theorem rsyl_any (c : Int) (w : World) :
    Calls Try.prog 43 #[.int .i64 c] w fun e w' => e = .returned (.bool (Hg.syl c)) ∧ w = w' := by
  by_cases hs : Hg.syl c = true
  · obtain ⟨h1, h2⟩ := (Hg.syl_iff c).1 hs
    rw [hs]; clear hs
    have h3 : c ≤ 55203 := by omega
    go_enter Try.func43, Try.ntmps43
    go_wp2
    go_ret
    exact ⟨rfl, rfl⟩
  · have hn : Hg.syl c = false := by simpa using hs
    have hd := (Hg.syl_no c).1 hn
    rw [hn]; clear hs hn
    rcases hd with h | h
    · go_enter Try.func43, Try.ntmps43
      go_wp2
      go_ret
      exact ⟨rfl, rfl⟩
    · have h1 : 44032 ≤ c := by omega
      have h2 : ¬ c ≤ 55203 := by omega
      go_enter Try.func43, Try.ntmps43
      go_wp2
      go_ret
      exact ⟨rfl, rfl⟩

set_option maxHeartbeats 400000 in
theorem rkind_any (c : Int) (w : World) :
    Calls Try.prog 33 #[.int .i64 c] w fun e w' => e = .returned (.int .i64 (Hg.kind c)) ∧ w = w' := by
  by_cases hs : Hg.syl c = true
  · obtain ⟨h1, h2⟩ := (Hg.syl_iff c).1 hs
    by_cases hk : (c - 44032) % 28 = 0
    · have e1 : Hg.kind c = 4 := by rw [Hg.kind4]; exact ⟨⟨h1, h2⟩, hk⟩
      have hb : ((c - 44032) % 28 == 0) = true := by rw [beq_iff_eq]; exact hk
      rw [e1]; clear e1 hk
      go_enter Try.func33, Try.ntmps33
      go_wp2_with (go_at_call 43; refine (rsyl_any _ _).mono ?_; rintro e w' ⟨rfl, rfl⟩)
      go_ret
      exact ⟨rfl, rfl⟩
    · have e1 : Hg.kind c = 5 := by rw [Hg.kind5]; exact ⟨⟨h1, h2⟩, hk⟩
      have hb : ((c - 44032) % 28 == 0) = false := by rw [beq_eq_false_iff_ne]; exact hk
      rw [e1]; clear e1 hk
      go_enter Try.func33, Try.ntmps33
      go_wp2_with (go_at_call 43; refine (rsyl_any _ _).mono ?_; rintro e w' ⟨rfl, rfl⟩)
      go_ret
      exact ⟨rfl, rfl⟩
  · have hn : Hg.syl c = false := by simpa using hs
    have hd := (Hg.syl_no c).1 hn
    clear hs
    rcases (show c < 4352 ∨ (4352 ≤ c ∧ c < 4371) ∨ (4371 ≤ c ∧ c < 4449) ∨ (4449 ≤ c ∧ c < 4470) ∨ (4470 ≤ c ∧ c ≤ 4519) ∨ (4519 < c ∧ c < 4547) ∨ 4547 ≤ c from by omega) with h | ⟨h, h'⟩ | ⟨h, h'⟩ | ⟨h, h'⟩ | ⟨h, h'⟩ | ⟨h, h'⟩ | h
    all_goals
      have e1 : Hg.kind c = (if 4352 ≤ c ∧ c < 4371 then 1 else if 4449 ≤ c ∧ c < 4470 then 2 else if 4519 < c ∧ c < 4547 then 3 else 0) := by
        unfold Hg.kind; rw [if_neg (by rw [hn]; decide)]
      first
        | rw [if_pos (by omega)] at e1
        | rw [if_neg (by omega), if_pos (by omega)] at e1
        | rw [if_neg (by omega), if_neg (by omega), if_pos (by omega)] at e1
        | rw [if_neg (by omega), if_neg (by omega), if_neg (by omega)] at e1
      rw [e1]; clear e1 hd
      go_enter Try.func33, Try.ntmps33
      go_wp2_with (go_at_call 43; refine (rsyl_any _ _).mono ?_; rintro e w' ⟨rfl, rfl⟩)
      go_ret
      exact ⟨rfl, rfl⟩
end Go.Proofs.Ytnckclbgpoankaa
