/- The walks of scalar and Length: what a scalar value is. -/
import Derived.Test.YtoihjbiahccaaaaPnApp
import Derived.Test.YtoihjbiahccaaaaPnEnc
namespace Go.Proofs.Ytoihjbiahccaaaa
open Go Go.RowKit
set_option linter.unusedVariables false

theorem scalar_cases (c : Int) : (c < 0 ∧ Pn.scalar c = false) ∨ (1114111 < c ∧ 0 ≤ c ∧ Pn.scalar c = false) ∨ (0 ≤ c ∧ c < 55296 ∧ Pn.scalar c = true) ∨ (55296 ≤ c ∧ c ≤ 57343 ∧ Pn.scalar c = false) ∨ (57343 < c ∧ c ≤ 1114111 ∧ Pn.scalar c = true) := by
  unfold Pn.scalar
  by_cases h1 : c < 0
  · exact .inl ⟨h1, by simp; omega⟩
  by_cases h2 : 1114111 < c
  · exact .inr (.inl ⟨h2, by omega, by simp; omega⟩)
  by_cases h3 : c < 55296
  · exact .inr (.inr (.inl ⟨by omega, h3, by simp; omega⟩))
  by_cases h4 : c ≤ 57343
  · exact .inr (.inr (.inr (.inl ⟨by omega, h4, by simp; omega⟩)))
  · exact .inr (.inr (.inr (.inr ⟨by omega, by omega, by simp; omega⟩)))
set_option maxHeartbeats 1000000 in
theorem uscalar_any (c : Int) (w : World) : Calls Try.prog 48 #[.int .i64 c] w fun e w' => e = .returned (.bool (Pn.scalar c)) ∧ w = w' := by
  rcases scalar_cases c with ⟨h1, h⟩ | ⟨h1, h2, h⟩ | ⟨h1, h2, h⟩ | ⟨h1, h2, h⟩ | ⟨h1, h2, h⟩
  all_goals
    rw [h]
    clear h
    go_enter Try.func48, Try.ntmps48
    go_wp2
    go_ret
    first
      | exact ⟨rfl, rfl⟩
      | exact ⟨by simp; omega, rfl⟩
set_option maxHeartbeats 1000000 in
theorem rscalar_any (c : Int) (w : World) : Calls Try.prog 38 #[.int .i64 c] w fun e w' => e = .returned (.bool (Pn.scalar c)) ∧ w = w' := by
  rcases scalar_cases c with ⟨h1, h⟩ | ⟨h1, h2, h⟩ | ⟨h1, h2, h⟩ | ⟨h1, h2, h⟩ | ⟨h1, h2, h⟩
  all_goals
    rw [h]
    clear h
    go_enter Try.func38, Try.ntmps38
    go_wp2
    go_ret
    first
      | exact ⟨rfl, rfl⟩
      | exact ⟨by simp; omega, rfl⟩
def Pn.len (c : Int) : Int := if Pn.scalar c then (if c ≤ 127 then 1 else if c ≤ 2047 then 2 else if c ≤ 65535 then 3 else 4) else 0
theorem Pn.len_zero (c : Int) : (Pn.len c == 0) = !Pn.scalar c := by
  unfold Pn.len
  cases Pn.scalar c
  · rfl
  · simp only [if_true, Bool.not_true]
    split
    · rfl
    · split
      · rfl
      · split <;> rfl
set_option maxHeartbeats 1000000 in
theorem length_any (c : Int) (w : World) : Calls Try.prog 36 #[.int .i64 c] w fun e w' => e = .returned (.int .i64 (Pn.len c)) ∧ w = w' := by
  have hl : Pn.len c = if Pn.scalar c then (if c ≤ 127 then 1 else if c ≤ 2047 then 2 else if c ≤ 65535 then 3 else 4) else 0 := rfl
  have hs := uscalar_any c w
  cases hb : Pn.scalar c
  · rw [hb] at hl hs
    have HLN := Lib.hid (show Pn.len c = 0 from hl); clear hl hb
    have HS := Lib.hid hs; clear hs
    go_enter Try.func36, Try.ntmps36
    go_wp2_with fail
    refine HS.out.mono ?_
    rintro e w1 ⟨rfl, hw⟩
    subst hw
    go_wp2
    go_ret
    exact ⟨by rw [HLN.out]; rfl, rfl⟩
  · rw [hb] at hl hs
    have HLN := Lib.hid (show Pn.len c = (if c ≤ 127 then 1 else if c ≤ 2047 then 2 else if c ≤ 65535 then 3 else 4) from hl); clear hl hb
    have HS := Lib.hid hs; clear hs
    by_cases h1 : c ≤ 127
    · have HL := Lib.hid (show Pn.len c = 1 by rw [HLN.out, if_pos h1]); clear HLN
      go_enter Try.func36, Try.ntmps36
      go_wp2_with fail
      refine HS.out.mono ?_
      rintro e w1 ⟨rfl, hw⟩
      subst hw
      go_wp2
      go_ret
      exact ⟨by rw [HL.out]; rfl, rfl⟩
    by_cases h2 : c ≤ 2047
    · have HL := Lib.hid (show Pn.len c = 2 by rw [HLN.out, if_neg h1, if_pos h2]); clear HLN
      go_enter Try.func36, Try.ntmps36
      go_wp2_with fail
      refine HS.out.mono ?_
      rintro e w1 ⟨rfl, hw⟩
      subst hw
      go_wp2
      go_ret
      exact ⟨by rw [HL.out]; rfl, rfl⟩
    by_cases h3 : c ≤ 65535
    · have HL := Lib.hid (show Pn.len c = 3 by rw [HLN.out, if_neg h1, if_neg h2, if_pos h3]); clear HLN
      go_enter Try.func36, Try.ntmps36
      go_wp2_with fail
      refine HS.out.mono ?_
      rintro e w1 ⟨rfl, hw⟩
      subst hw
      go_wp2
      go_ret
      exact ⟨by rw [HL.out]; rfl, rfl⟩
    · have HL := Lib.hid (show Pn.len c = 4 by rw [HLN.out, if_neg h1, if_neg h2, if_neg h3]); clear HLN
      go_enter Try.func36, Try.ntmps36
      go_wp2_with fail
      refine HS.out.mono ?_
      rintro e w1 ⟨rfl, hw⟩
      subst hw
      go_wp2
      go_ret
      exact ⟨by rw [HL.out]; rfl, rfl⟩
end Go.Proofs.Ytoihjbiahccaaaa
