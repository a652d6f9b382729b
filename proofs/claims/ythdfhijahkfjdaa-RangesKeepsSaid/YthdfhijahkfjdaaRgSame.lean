/- The walks of keep.Same at Span, and of keep.Spans. -/
import Derived.Test.YthdfhijahkfjdaaROver
import Derived.Test.YthdfhijahkfjdaaSrcN
import Derived.StillTailTactics
namespace Go.Proofs.Ythdfhijahkfjdaa
open Go Go.RowKit
set_option linter.unusedVariables false

set_option maxHeartbeats 2000000 in
theorem samesp_any (A A' : Option Addr) (n n' c c' : Nat) (l m : List Rg.Sn) (B : Nat) (w : World) (hx : Rd w B 3 A n (spans l)) (hy : Rd w B 3 A' n' (spans m)) (he : l = m) (hn : n ≤ 100000000000000000) :
    Calls Try.prog 19 #[.slice A n c, .slice A' n' c'] w fun e w' => e = .returned (.bool true) ∧ ∃ q, w' = w.drewN q := by
  subst he
  have h1 := rg_len hx
  have h2 := rg_len hy
  obtain rfl : n' = n := by omega
  clear h1 h2
  have HX := Lib.hid hx; have HY := Lib.hid hy; clear hx hy
  have hb : ((n' : Int) != (n' : Int)) = false := by simp
  go_enter Try.func19, Try.ntmps19
  go_wp2
  go_loopw [5, 13] (fun _ i wr => ∃ k : Nat, k ≤ n' ∧ i = .int .i64 k ∧ ∃ q, wr = w.drewN q) (fun _ i _ => n' - (intOf i).toNat)
  case atStart => exact ⟨0, by omega, rfl, 0, rfl⟩
  case round =>
    obtain ⟨k, hk, rfl, q, rfl⟩ := hrel
    by_cases hlt : k < n'
    · obtain ⟨b, off, s, rfl, _, hs, a1, a2, a3⟩ := spans_cell HX.out hlt
      obtain ⟨b', off', s', rfl, _, hs', b1, b2, b3⟩ := spans_cell HY.out hlt
      rw [hs] at hs'; injection hs' with hs'; subst hs'
      clear hs
      have hk0 : (0 : Int) ≤ (k : Int) := by omega
      have hk1 : (k : Int) < (n' : Int) := by omega
      go_wp2_with fail
      go_quiet (fail)
      go_wp2
      go_roundw
      case rel => exact ⟨k + 1, by omega, by go_num, _, rfl⟩
      case measure => simp [intOf]; omega
    · go_wp2
      go_ret
      exact ⟨rfl, _, rfl⟩
end Go.Proofs.Ythdfhijahkfjdaa
