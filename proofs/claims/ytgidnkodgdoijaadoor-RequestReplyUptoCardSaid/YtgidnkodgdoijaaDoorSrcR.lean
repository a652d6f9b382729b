/- The walks of a source of choices: From, Next. -/
import Derived.Test.YtgidnkodgdoijaaDoorPick
import Derived.Deep.QuietTactic
import Derived.BigQuiet
namespace Go.Proofs.YtgidnkodgdoijaaDoor
open Go Go.RowKit
set_option linter.unusedVariables false

/-- Element k of a slice of numbers, as a cell. -/
theorem ints_cell {w : World} {B n : Nat} {A : Option Addr} {xs : List Int} (h : Rd w B 1 A n (ints xs)) {k : Nat} (hk : k < n) :
    ∃ b off c, A = some ⟨b, off, none⟩ ∧ b < B ∧ xs[k]? = some c ∧ w.cell? ⟨b, off + k, none⟩ = some (.int .i64 c) := by
  obtain ⟨b, off, u, hA, hb, hu, hc⟩ := h.at_ hk
  rw [ints_at] at hu
  obtain ⟨c, hc1, rfl⟩ := Option.map_eq_some_iff.1 hu
  exact ⟨b, off, c, hA, hb, hc1, hc⟩

/-- Block g is a source over the slice '.slice A n c', at place i. -/
def Src (w : World) (g : Nat) (A : Option Addr) (n c i : Nat) : Prop := Bk w g 62 #[.slice A n c, .int .i64 (i : Int)]

set_option maxHeartbeats 400000 in
theorem from_any (A : Option Addr) (n c : Nat) (w : World) :
    Calls Tryd.prog 16 #[.slice A n c] w fun e w' => e = .returned (.pointer (some ⟨w.heap.size, 0, none⟩)) ∧ w.alloc (.cells #[.slice A n c, .int .i64 0] 62) = w' := by
  go_enter Tryd.func16, Tryd.ntmps16
  go_wp2
  go_ret
  exact ⟨rfl, rfl⟩
theorem src_new (w : World) (A : Option Addr) (n c : Nat) : Src (w.alloc (.cells #[.slice A n c, .int .i64 0] 62)) w.heap.size A n c 0 := Bk.new _ _ _

/-- The call returns a number; only the source's own block has turned. -/
def RetNx (xs : List Int) (g : Nat) (A : Option Addr) (c i : Nat) (m : Int) (w : World) (e : Ending) (w' : World) : Prop :=
  e = .returned (.int .i64 (Kp.nx xs i m)) ∧ Src w' g A xs.length c (Kp.ad xs i) ∧ w.grownBy w' (some g)
set_option maxHeartbeats 1000000 in
theorem next_any (g : Nat) (A : Option Addr) (c : Nat) (xs : List Int) (i : Nat) (m : Int) (h1 : 1 ≤ m) (h2 : m ≤ 9223372036854775807) (B : Nat) (w : World) (hs : Src w g A xs.length c i)
    (hr : Rd w B 1 A xs.length (ints xs)) (hB : B ≤ g) (hl : xs.length ≤ maxLen) :
    Calls Tryd.prog 17 #[.pointer (some ⟨g, 0, none⟩), .int .i64 m] w (RetNx xs g A c i m w) := by
  unfold maxLen at hl
  have c0 : w.cell? ⟨g, 0, none⟩ = some (.slice A xs.length c) := hs.cell 0
  have c1 : w.cell? ⟨g, 1, none⟩ = some (.int .i64 (i : Int)) := hs.cell 1
  have f1 : w.frozen? ⟨g, 1, none⟩ = false := hs.frozen 1
  have HS := Lib.hid hs; clear hs
  by_cases h : i < xs.length
  · obtain ⟨b, off, u, rfl, hb, hu, hcu⟩ := ints_cell hr h
    have e1 : Kp.nx xs i m = Kp.pick u m := by unfold Kp.nx; rw [hu]
    have e2 : Kp.ad xs i = i + 1 := by unfold Kp.ad; rw [if_pos h]
    have E1 := Lib.hid e1; have E2 := Lib.hid e2; clear e1 e2 hu hr
    have hbg : ¬ b = g := by omega
    have hgb : ¬ g = b := by omega
    generalize hn : xs.length = n at *
    have HN := Lib.hid hn; clear hn
    have hi : (i : Int) < (n : Int) := by omega
    have hi' : ¬ (n : Int) ≤ (i : Int) := by omega
    go_enter Tryd.func17, Tryd.ntmps17
    go_wp2
    go_quiet (fail)
    go_wp2
    have hS2 : Src ((w.drewN nq).setCell ⟨g, 1, none⟩ (.int .i64 ((i : Int) + 1))) g (some ⟨b, off, none⟩) n c (i + 1) := by
      have := (HS.out.drewN nq).set_ 1 (.int .i64 ((i : Int) + 1))
      simpa [Src] using this
    have hG2 : w.grownBy ((w.drewN nq).setCell ⟨g, 1, none⟩ (.int .i64 ((i : Int) + 1))) (some g) := only_setCell (only_drewN (only_refl w _) nq) (.inl rfl) _
    have hU2 : ((w.drewN nq).setCell ⟨g, 1, none⟩ (.int .i64 ((i : Int) + 1))).cell? ⟨b, off + i, none⟩ = some (.int .i64 u) := by
      rw [World.cell?_setCell_other _ _ _ _ (by intro e; injection e; omega)]
      exact hcu
    clear hcu c0 c1 f1
    generalize (w.drewN nq).setCell ⟨g, 1, none⟩ (.int .i64 ((i : Int) + 1)) = W at *
    have c0 : W.cell? ⟨g, 0, none⟩ = some (.slice (some ⟨b, off, none⟩) n c) := hS2.cell 0
    have c1 : W.cell? ⟨g, 1, none⟩ = some (.int .i64 ((i : Int) + 1)) := by have := hS2.cell 1; simpa using this
    have HS2 := Lib.hid hS2; have HG2 := Lib.hid hG2; clear hS2 hG2 HS
    go_quiet ((go_at_call 7; exact quiet_same (pick_any _ _ h1 h2 _)))
    go_wp2
    go_ret
    refine ⟨by rw [E1.out]; rfl, ?_, only_drewN HG2.out _⟩
    rw [E2.out, HN.out]
    exact HS2.out.drewN _
  · have e1 : Kp.nx xs i m = 0 := Kp.nx_end xs i m h
    have e2 : Kp.ad xs i = i := by unfold Kp.ad; rw [if_neg h]
    have E1 := Lib.hid e1; have E2 := Lib.hid e2; clear e1 e2 hr
    generalize hn : xs.length = n at *
    have HN := Lib.hid hn; clear hn
    have hi : (n : Int) ≤ (i : Int) := by omega
    go_enter Tryd.func17, Tryd.ntmps17
    go_wp2
    go_quiet (fail)
    go_wp2
    go_ret
    refine ⟨by rw [E1.out]; rfl, ?_, only_drewN (only_refl w _) _⟩
    rw [E2.out, HN.out]
    exact HS.out.drewN _
end Go.Proofs.YtgidnkodgdoijaaDoor
