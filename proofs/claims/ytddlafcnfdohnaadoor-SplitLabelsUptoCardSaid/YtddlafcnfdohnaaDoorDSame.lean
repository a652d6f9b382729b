/- The walk of keep.SameLists. -/
import Derived.Test.YtddlafcnfdohnaaDoorDLabels
namespace Go.Proofs.YtddlafcnfdohnaaDoor
open Go Go.RowKit
set_option linter.unusedVariables false

theorem quiet_draw {P : Program} {f : FuncId} {args : Array Value} {w : World} {a n : Nat} {v : Value}
    (h : Calls P f args (w.drewN (a + n)) fun e w' => e = .returned v ∧ ∃ m, w' = (w.drewN (a + n)).drewN m) : Calls P f args (w.drewN (a + n)) fun e w'' => e = .returned v ∧ ∃ m, w'' = w.drewN (a + m) :=
  h.mono fun _ _ ⟨he, m, hm⟩ => ⟨he, n + m, by rw [hm, World.drewN_drewN, Nat.add_assoc]⟩
set_option maxHeartbeats 2000000 in
theorem samel_ok (A A' : Option Addr) (c c' : Nat) (yss : List (List Int)) (B : Nat) (w : World) (hx : RdR w B A yss) (hy : RdR w B A' yss) (hn0 : yss.length ≤ maxLen) (hm0 : ∀ y ∈ yss, y.length ≤ maxLen) :
    Calls Tryd.prog 7 #[.slice A yss.length c, .slice A' yss.length c'] w fun e w' => e = .returned (.bool true) ∧ ∃ m, w' = w.drewN m := by
  have HX := Lib.hid hx; have HY := Lib.hid hy; have HM := Lib.hid hm0
  unfold maxLen at hn0
  clear hx hy hm0
  generalize hn : yss.length = n at *
  have HN := Lib.hid hn; clear hn
  have hb : ((n : Int) != (n : Int)) = false := by simp
  go_enter Tryd.func7, Tryd.ntmps7
  go_wp2
  go_loopw [13] (fun i wr => ∃ k : Nat, k ≤ n ∧ i = .int .i64 k ∧ ∃ m, wr = w.drewN m) (fun i _ => n - (intOf i).toNat)
  case atStart => exact ⟨0, by omega, rfl, 0, rfl⟩
  case round =>
    obtain ⟨k, hk, rfl, m, rfl⟩ := hrel
    by_cases hlt : k < n
    · obtain ⟨b, off, ys, A1, c1, rfl, _, hys, hc1, hr1⟩ := HX.out.at_ (k := k) (by rw [HN.out]; exact hlt)
      obtain ⟨b', off', zs, A2, c2, rfl, _, hzs, hc2, hr2⟩ := HY.out.at_ (k := k) (by rw [HN.out]; exact hlt)
      have hyz : zs = ys := by rw [hys] at hzs; exact (Option.some.inj hzs).symm
      subst hyz
      have hml := HM.out _ (List.mem_of_getElem? hys)
      have hsame : ∀ q, Calls Tryd.prog 10 #[.slice A1 zs.length c1, .slice A2 zs.length c2] (w.drewN q) fun e w' => e = .returned (.bool true) ∧ ∃ m, w' = (w.drewN q).drewN m :=
        fun q => same_ok A1 A2 zs.length zs.length c1 c2 zs zs B _ (hr1.drewN q) (hr2.drewN q) hml hml rfl
      have HS := Lib.hid hsame
      clear hys hzs hr1 hr2 hsame
      go_wp2_with fail
      go_quiet ((go_at_call 10; exact quiet_draw (HS.out _)))
      go_wp2
      go_roundw
      case rel => exact ⟨k + 1, by omega, by go_num, _, rfl⟩
      case measure => simp [intOf]; omega
    · go_wp2
      go_ret
      exact ⟨rfl, _, rfl⟩
end Go.Proofs.YtddlafcnfdohnaaDoor
