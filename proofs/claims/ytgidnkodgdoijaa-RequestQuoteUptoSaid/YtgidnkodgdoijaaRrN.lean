/- The walks of the reference's Natural and word. -/
import Derived.Test.YtgidnkodgdoijaaRqG
namespace Go.Proofs.Ytgidnkodgdoijaa
open Go Go.RowKit
set_option linter.unusedVariables false

theorem rword_any (j : Nat) (h0 : 0 < j) (h8 : j < 8) (w : World) : Calls Try.prog 28 #[.int .i64 (j : Int)] w fun e w' => e = .returned (.string (str (Rq.wd j))) ∧ w' = w := by
  have : j = 1 ∨ j = 2 ∨ j = 3 ∨ j = 4 ∨ j = 5 ∨ j = 6 ∨ j = 7 := by omega
  rcases this with rfl | rfl | rfl | rfl | rfl | rfl | rfl
  all_goals
    go_enter Try.func28, Try.ntmps28
    go_wp2
    go_ret
    exact ⟨rfl, rfl⟩
set_option maxHeartbeats 4000000 in
theorem natural_any (s : ByteArray) (w : World) : Calls Try.prog 30 #[.string s, .int .i64 10] w fun e w' => e = .returned (decRet (Rq.dec (lst s))) ∧ w = w' := by
  have hcond : (s.size = 0 ∧ Rq.dec (lst s) = none) ∨ (10 < s.size ∧ Rq.dec (lst s) = none) ∨ (∃ h : 0 < s.size, s[0].toNat = 48 ∧ 1 < s.size ∧ s.size ≤ 10 ∧ Rq.dec (lst s) = none) ∨
      (∃ h : 0 < s.size, s.size ≤ 10 ∧ (s[0].toNat ≠ 48 ∨ s.size = 1) ∧ Rq.dec (lst s) = Rq.dg (lst s) 0) := by
    unfold Rq.dec
    by_cases h0 : s.size = 0
    · left; refine ⟨h0, ?_⟩; rw [if_pos (.inl (List.eq_nil_of_length_eq_zero (by rw [lst_length]; exact h0)))]
    by_cases h1 : 10 < s.size
    · right; left; refine ⟨h1, ?_⟩; rw [if_pos (.inr (.inl (by rw [lst_length]; exact h1)))]
    have h00 : 0 < s.size := by omega
    have hat := lst_at s 0 h00
    by_cases h2 : s[0].toNat = 48 ∧ 1 < s.size
    · right; right; left
      refine ⟨h00, h2.1, h2.2, by omega, ?_⟩
      have h48 : s[0] = 48 := UInt8.toNat_inj.1 h2.1
      rw [if_pos (.inr (.inr ⟨by rw [hat, h48], by rw [lst_length]; exact h2.2⟩))]
    · right; right; right
      refine ⟨h00, by omega, ?_, ?_⟩
      · by_cases h : s[0].toNat = 48
        · right
          have : ¬ 1 < s.size := fun e => h2 ⟨h, e⟩
          omega
        · left; exact h
      rw [if_neg]
      rintro (h | h | ⟨h, h3⟩)
      · have := congrArg List.length h; rw [lst_length, List.length_nil] at this; omega
      · rw [lst_length] at h; omega
      · rw [hat] at h
        injection h with h
        rw [lst_length] at h3
        exact h2 ⟨by rw [h]; rfl, h3⟩
  rcases hcond with ⟨h0, hd⟩ | ⟨h1, hd⟩ | ⟨h0, h48, h1, h10, hd⟩ | ⟨h0, h10, h2, hd⟩
  · have hse : 1 ≤ s.size ∨ True := .inr trivial
    have HD := Lib.hid hd; clear hd
    go_enter Try.func30, Try.ntmps30
    go_wp2
    go_ret2
    exact ⟨by rw [HD.out]; rfl, rfl⟩
  · have hse : 1 ≤ s.size ∨ True := .inr trivial
    have HD := Lib.hid hd; clear hd
    go_enter Try.func30, Try.ntmps30
    go_wp2
    go_ret2
    exact ⟨by rw [HD.out]; rfl, rfl⟩
  · have hse : 1 ≤ s.size ∨ True := .inr trivial
    have hi48 : (s[0].toNat : Int) = 48 := by omega
    have HD := Lib.hid hd; clear hd h48
    go_enter Try.func30, Try.ntmps30
    go_wp2
    go_ret2
    exact ⟨by rw [HD.out]; rfl, rfl⟩
  · have hse : 1 ≤ s.size ∨ True := .inr trivial
    have HD := Lib.hid hd
    clear hd
    have hgd : (((s[0].toNat : Int) == 48) = true ∧ s.size = 1) ∨ ((s[0].toNat : Int) == 48) = false := by
      by_cases h : s[0].toNat = 48
      · left; exact ⟨by simp [h], by omega⟩
      · right; rw [beq_eq_false_iff_ne]; omega
    have HZ := Lib.hid h0
    clear h2
    have hs10 : s.size ≤ 10 := h10
    have hpow : ∀ j : Nat, j ≤ 10 → (10 : Int) ^ j ≤ 10000000000 := by
      intro j hj
      have : ∀ k : Fin 11, (10 : Int) ^ k.val ≤ 10000000000 := by decide
      exact this ⟨j, by omega⟩
    have HPW := Lib.hid hpow; clear hpow
    rcases hgd with ⟨g1, g2⟩ | g1
    all_goals
      go_enter Try.func30, Try.ntmps30
      go_wp2_with fail
      clear g1
      go_loopw [6, 7] (fun vn vi wr => ∃ (j : Nat) (n : Int), j ≤ s.size ∧ vi = .int .i64 j ∧ vn = .int .i64 n ∧ 0 ≤ n ∧ n + 1 ≤ 10 ^ j ∧ Rq.dg (lst s) 0 = Rq.dg ((lst s).drop j) n ∧ w = wr) (fun _ vi _ => s.size - (intOf vi).toNat)
      case atStart => exact ⟨0, 0, by omega, rfl, rfl, by omega, by simp, by rw [List.drop_zero], rfl⟩
      case round =>
        obtain ⟨j, n, hj, rfl, rfl, n0, n1, hdg, rfl⟩ := hrel
        have HDG := Lib.hid hdg; clear hdg
        by_cases hlt : j < s.size
        · have hdr := lst_drop s j hlt
          have HDR := Lib.hid hdr; clear hdr
          have hp1 := HPW.out (j + 1) (by omega)
          have hp2 : (10 : Int) ^ (j + 1) = 10 ^ j * 10 := Int.pow_succ 10 j
          have hn9 : n ≤ 1000000000 := by omega
          have hn1 : 10 * n + 10 ≤ 10 ^ (j + 1) := by omega
          have HN1 := Lib.hid hn1
          clear hp1 hp2 n1 hn1
          by_cases hd : 48 ≤ s[j].toNat ∧ s[j].toNat ≤ 57
          · have hg := dg_good ((lst s).drop (j + 1)) n hd
            have HG := Lib.hid hg; clear hg
            obtain ⟨d0, d1⟩ : 48 ≤ (s[j].toNat : Int) ∧ (s[j].toNat : Int) ≤ 57 := by omega
            clear hd
            go_wp2
            go_roundw
            case rel => exact ⟨j + 1, 10 * n + ((s[j].toNat : Int) - 48), by omega, by go_num, by go_num, by omega, by have := HN1.out; omega, by rw [HDG.out, HDR.out, HG.out], trivial⟩
            case measure => simp [intOf]; omega
          · have hg := dg_bad ((lst s).drop (j + 1)) n hd
            have hF : Rq.dec (lst s) = none := by rw [HD.out, HDG.out, HDR.out, hg]
            have HF := Lib.hid hF
            have hd2 : (s[j].toNat : Int) < 48 ∨ 57 < (s[j].toNat : Int) := by omega
            clear hg hF hd
            rcases hd2 with hd2 | hd2
            all_goals
              go_wp2
              go_ret2
              exact ⟨by rw [HF.out]; rfl, rfl⟩
        · have hd0 : (lst s).drop j = [] := List.drop_of_length_le (by rw [lst_length]; omega)
          have hF : Rq.dec (lst s) = some n := by rw [HD.out, HDG.out, hd0]; rfl
          have HF := Lib.hid hF
          clear hF hd0
          go_wp2
          go_ret2
          exact ⟨by rw [HF.out]; rfl, rfl⟩
end Go.Proofs.Ytgidnkodgdoijaa
