/- The walks of Adapt and threshold, ours and the reference's. -/
import Derived.Test.YtoihjbiahccaaaaProg
import Derived.Test.YtoihjbiahccaaaaBase
import Derived.Test.YtoihjbiahccaaaaPnMath
import Derived.IntWalk
namespace Go.Proofs.Ytoihjbiahccaaaa
open Go Go.RowKit
set_option linter.unusedVariables false

theorem tdiv_is (a b : Int) (h : 0 ≤ a) : a.tdiv b = a / b := Int.tdiv_eq_ediv_of_nonneg h
theorem Pn.adapt_no {d p : Int} {first : Bool} (h : d < 0 ∨ 1099511627776 < d ∨ p < 1 ∨ 4096 < p) : Pn.adapt d p first = 0 := by
  unfold Pn.adapt Pn.adOut; rw [if_pos (by simpa using h)]
theorem Pn.adapt_yes {d p : Int} {first : Bool} (h0 : 0 ≤ d) (h1 : d ≤ 1099511627776) (h2 : 1 ≤ p) (h3 : p ≤ 4096) : Pn.adapt d p first = Pn.adLoop 20 (Pn.adStart d p first) 0 := by
  unfold Pn.adapt Pn.adOut; rw [if_neg (by simp; omega)]
theorem Pn.last_bd (x : Int) (h0 : 0 ≤ x) : 0 ≤ 36 * x / (x + 38) ∧ 36 * x / (x + 38) < 36 :=
  ⟨Int.ediv_nonneg (by omega) (by omega), Int.ediv_lt_of_lt_mul (by omega) (by omega)⟩

set_option maxHeartbeats 1000000 in
theorem adapt_any (d p : Int) (first : Bool) (w : World) :
    Calls Try.prog 22 #[.int .i64 d, .int .i64 p, .bool first] w fun e w' => e = .returned (.int .i64 (Pn.adapt d p first)) ∧ w = w' := by
  by_cases c1 : d < 0
  · rw [Pn.adapt_no (.inl c1)]
    go_enter Try.func22, Try.ntmps22
    go_wp2
    go_ret
    exact ⟨rfl, rfl⟩
  have d0 : 0 ≤ d := by omega
  by_cases c2 : 1099511627776 < d
  · rw [Pn.adapt_no (.inr (.inl c2))]
    go_enter Try.func22, Try.ntmps22
    go_wp2
    go_ret
    exact ⟨rfl, rfl⟩
  have d1 : d ≤ 1099511627776 := by omega
  by_cases c3 : p < 1
  · rw [Pn.adapt_no (.inr (.inr (.inl c3)))]
    go_enter Try.func22, Try.ntmps22
    go_wp2
    go_ret
    exact ⟨rfl, rfl⟩
  have p0 : 1 ≤ p := by omega
  by_cases c4 : 4096 < p
  · rw [Pn.adapt_no (.inr (.inr (.inr c4)))]
    go_enter Try.func22, Try.ntmps22
    go_wp2
    go_ret
    exact ⟨rfl, rfl⟩
  have p1 : p ≤ 4096 := by omega
  have hst := Pn.adStart_bd d p first d0 d1 p0
  rw [Pn.adapt_yes d0 d1 p0 p1]
  have hdef : Pn.adStart d p first = (if first then d / 700 else d / 2) + (if first then d / 700 else d / 2) / p := rfl
  have hp0 : ¬ p = 0 := by omega
  clear c1 c2 c3 c4
  cases first
  · have hx : Pn.adStart d p false = d / 2 + d / 2 / p := hdef
    have t1 := tdiv_is d 2 d0
    have e0 : 0 ≤ d / 2 := by omega
    have t2 := tdiv_is (d / 2) p e0
    have hq0 : 0 ≤ d / 2 / p := Int.ediv_nonneg e0 (by omega)
    have hq1 : d / 2 / p ≤ d / 2 := Int.ediv_le_self p e0
    have HX := Lib.hid hx; have HT1 := Lib.hid t1; have HT2 := Lib.hid t2
    clear hx t1 t2 hdef
    go_enter Try.func22, Try.ntmps22
    go_wp2_with fail
    go_loop [0, 7] (fun vd vk => ∃ x k : Int, vd = .int .i64 x ∧ vk = .int .i64 k ∧ 0 ≤ x ∧ 0 ≤ k ∧ k + 36 * x ≤ 39582418599936 ∧ Pn.adLoop 20 x k = Pn.adLoop 20 (Pn.adStart d p false) 0) (fun vd _ => (intOf vd).toNat)
    case atStart => exact ⟨_, 0, rfl, rfl, by omega, by omega, by omega, by rw [HX.out]⟩
    case round =>
      obtain ⟨x, k, rfl, rfl, x0, k0, hk, he⟩ := hrel
      have HE := Lib.hid he; clear he
      clear d0 d1 p0 p1 hp0 hst e0 hq0 hq1
      by_cases hc : 455 < x
      · have hs := Pn.adLoop_step x k hc (by omega)
        have HS := Lib.hid hs; clear hs
        have x1 : 0 ≤ x / 35 := by omega
        go_wp2
        go_round
        case rel => exact ⟨x / 35, k + 36, rfl, rfl, by omega, by omega, by omega, by rw [← HS.out]; exact HE.out⟩
        case measure => simp [intOf]; omega
      · have hs := Pn.adLoop_end x k hc
        have HS := Lib.hid hs; clear hs
        obtain ⟨l0, l1⟩ := Pn.last_bd x x0
        go_wp2
        go_ret
        exact ⟨by rw [← HE.out, HS.out]; rfl, rfl⟩
  · have hx : Pn.adStart d p true = d / 700 + d / 700 / p := hdef
    have t1 := tdiv_is d 700 d0
    have e0 : 0 ≤ d / 700 := by omega
    have t2 := tdiv_is (d / 700) p e0
    have hq0 : 0 ≤ d / 700 / p := Int.ediv_nonneg e0 (by omega)
    have hq1 : d / 700 / p ≤ d / 700 := Int.ediv_le_self p e0
    have HX := Lib.hid hx; have HT1 := Lib.hid t1; have HT2 := Lib.hid t2
    clear hx t1 t2 hdef
    go_enter Try.func22, Try.ntmps22
    go_wp2_with fail
    go_loop [0, 7] (fun vd vk => ∃ x k : Int, vd = .int .i64 x ∧ vk = .int .i64 k ∧ 0 ≤ x ∧ 0 ≤ k ∧ k + 36 * x ≤ 39582418599936 ∧ Pn.adLoop 20 x k = Pn.adLoop 20 (Pn.adStart d p true) 0) (fun vd _ => (intOf vd).toNat)
    case atStart => exact ⟨_, 0, rfl, rfl, by omega, by omega, by omega, by rw [HX.out]⟩
    case round =>
      obtain ⟨x, k, rfl, rfl, x0, k0, hk, he⟩ := hrel
      have HE := Lib.hid he; clear he
      clear d0 d1 p0 p1 hp0 hst e0 hq0 hq1
      by_cases hc : 455 < x
      · have hs := Pn.adLoop_step x k hc (by omega)
        have HS := Lib.hid hs; clear hs
        have x1 : 0 ≤ x / 35 := by omega
        go_wp2
        go_round
        case rel => exact ⟨x / 35, k + 36, rfl, rfl, by omega, by omega, by omega, by rw [← HS.out]; exact HE.out⟩
        case measure => simp [intOf]; omega
      · have hs := Pn.adLoop_end x k hc
        have HS := Lib.hid hs; clear hs
        obtain ⟨l0, l1⟩ := Pn.last_bd x x0
        go_wp2
        go_ret
        exact ⟨by rw [← HE.out, HS.out]; rfl, rfl⟩

set_option maxHeartbeats 1000000 in
theorem radapt_any (d p : Int) (first : Bool) (w : World) :
    Calls Try.prog 23 #[.int .i64 d, .int .i64 p, .bool first] w fun e w' => e = .returned (.int .i64 (Pn.adapt d p first)) ∧ w = w' := by
  by_cases c1 : d < 0
  · rw [Pn.adapt_no (.inl c1)]
    go_enter Try.func23, Try.ntmps23
    go_wp2
    go_ret
    exact ⟨rfl, rfl⟩
  have d0 : 0 ≤ d := by omega
  by_cases c2 : 1099511627776 < d
  · rw [Pn.adapt_no (.inr (.inl c2))]
    go_enter Try.func23, Try.ntmps23
    go_wp2
    go_ret
    exact ⟨rfl, rfl⟩
  have d1 : d ≤ 1099511627776 := by omega
  by_cases c3 : p < 1
  · rw [Pn.adapt_no (.inr (.inr (.inl c3)))]
    go_enter Try.func23, Try.ntmps23
    go_wp2
    go_ret
    exact ⟨rfl, rfl⟩
  have p0 : 1 ≤ p := by omega
  by_cases c4 : 4096 < p
  · rw [Pn.adapt_no (.inr (.inr (.inr c4)))]
    go_enter Try.func23, Try.ntmps23
    go_wp2
    go_ret
    exact ⟨rfl, rfl⟩
  have p1 : p ≤ 4096 := by omega
  have hst := Pn.adStart_bd d p first d0 d1 p0
  rw [Pn.adapt_yes d0 d1 p0 p1]
  have hdef : Pn.adStart d p first = (if first then d / 700 else d / 2) + (if first then d / 700 else d / 2) / p := rfl
  have hp0 : ¬ p = 0 := by omega
  clear c1 c2 c3 c4
  cases first
  · have hx : Pn.adStart d p false = d / 2 + d / 2 / p := hdef
    have t1 := tdiv_is d 2 d0
    have e0 : 0 ≤ d / 2 := by omega
    have t2 := tdiv_is (d / 2) p e0
    have hq0 : 0 ≤ d / 2 / p := Int.ediv_nonneg e0 (by omega)
    have hq1 : d / 2 / p ≤ d / 2 := Int.ediv_le_self p e0
    have HX := Lib.hid hx; have HT1 := Lib.hid t1; have HT2 := Lib.hid t2
    clear hx t1 t2 hdef
    go_enter Try.func23, Try.ntmps23
    go_wp2_with fail
    go_loop [0, 7] (fun vd vk => ∃ x k : Int, vd = .int .i64 x ∧ vk = .int .i64 k ∧ 0 ≤ x ∧ 0 ≤ k ∧ k + 36 * x ≤ 39582418599936 ∧ Pn.adLoop 20 x k = Pn.adLoop 20 (Pn.adStart d p false) 0) (fun vd _ => (intOf vd).toNat)
    case atStart => exact ⟨_, 0, rfl, rfl, by omega, by omega, by omega, by rw [HX.out]⟩
    case round =>
      obtain ⟨x, k, rfl, rfl, x0, k0, hk, he⟩ := hrel
      have HE := Lib.hid he; clear he
      clear d0 d1 p0 p1 hp0 hst e0 hq0 hq1
      by_cases hc : 455 < x
      · have hs := Pn.adLoop_step x k hc (by omega)
        have HS := Lib.hid hs; clear hs
        have x1 : 0 ≤ x / 35 := by omega
        go_wp2
        go_round
        case rel => exact ⟨x / 35, k + 36, rfl, rfl, by omega, by omega, by omega, by rw [← HS.out]; exact HE.out⟩
        case measure => simp [intOf]; omega
      · have hs := Pn.adLoop_end x k hc
        have HS := Lib.hid hs; clear hs
        obtain ⟨l0, l1⟩ := Pn.last_bd x x0
        go_wp2
        go_ret
        exact ⟨by rw [← HE.out, HS.out]; rfl, rfl⟩
  · have hx : Pn.adStart d p true = d / 700 + d / 700 / p := hdef
    have t1 := tdiv_is d 700 d0
    have e0 : 0 ≤ d / 700 := by omega
    have t2 := tdiv_is (d / 700) p e0
    have hq0 : 0 ≤ d / 700 / p := Int.ediv_nonneg e0 (by omega)
    have hq1 : d / 700 / p ≤ d / 700 := Int.ediv_le_self p e0
    have HX := Lib.hid hx; have HT1 := Lib.hid t1; have HT2 := Lib.hid t2
    clear hx t1 t2 hdef
    go_enter Try.func23, Try.ntmps23
    go_wp2_with fail
    go_loop [0, 7] (fun vd vk => ∃ x k : Int, vd = .int .i64 x ∧ vk = .int .i64 k ∧ 0 ≤ x ∧ 0 ≤ k ∧ k + 36 * x ≤ 39582418599936 ∧ Pn.adLoop 20 x k = Pn.adLoop 20 (Pn.adStart d p true) 0) (fun vd _ => (intOf vd).toNat)
    case atStart => exact ⟨_, 0, rfl, rfl, by omega, by omega, by omega, by rw [HX.out]⟩
    case round =>
      obtain ⟨x, k, rfl, rfl, x0, k0, hk, he⟩ := hrel
      have HE := Lib.hid he; clear he
      clear d0 d1 p0 p1 hp0 hst e0 hq0 hq1
      by_cases hc : 455 < x
      · have hs := Pn.adLoop_step x k hc (by omega)
        have HS := Lib.hid hs; clear hs
        have x1 : 0 ≤ x / 35 := by omega
        go_wp2
        go_round
        case rel => exact ⟨x / 35, k + 36, rfl, rfl, by omega, by omega, by omega, by rw [← HS.out]; exact HE.out⟩
        case measure => simp [intOf]; omega
      · have hs := Pn.adLoop_end x k hc
        have HS := Lib.hid hs; clear hs
        obtain ⟨l0, l1⟩ := Pn.last_bd x x0
        go_wp2
        go_ret
        exact ⟨by rw [← HE.out, HS.out]; rfl, rfl⟩

theorem thr_any (j b : Int) (h0 : 0 ≤ j) (h1 : j ≤ 100000000000000) (b0 : 0 ≤ b) (b1 : b ≤ 100000000000000) (w : World) :
    Calls Try.prog 49 #[.int .i64 j, .int .i64 b] w fun e w' => e = .returned (.int .i64 (Pn.thr j b)) ∧ w = w' := by
  go_enter Try.func49, Try.ntmps49
  go_wp2
  all_goals
    go_ret
    exact ⟨ret_int (by unfold Pn.thr; omega), rfl⟩

theorem rthr_any (j b : Int) (h0 : 0 ≤ j) (h1 : j ≤ 100000000000000) (b0 : 0 ≤ b) (b1 : b ≤ 100000000000000) (w : World) :
    Calls Try.prog 51 #[.int .i64 j, .int .i64 b] w fun e w' => e = .returned (.int .i64 (Pn.thr j b)) ∧ w = w' := by
  go_enter Try.func51, Try.ntmps51
  go_wp2
  all_goals
    go_ret
    exact ⟨ret_int (by unfold Pn.thr; omega), rfl⟩
end Go.Proofs.Ytoihjbiahccaaaa
