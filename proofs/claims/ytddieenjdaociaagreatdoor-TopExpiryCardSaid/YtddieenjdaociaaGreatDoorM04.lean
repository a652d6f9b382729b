/- The tables without rows: the lists of columns and of mappings; ranges.Check of no span. The rules 2 to 9 of table.Check at the tables without rows: each holds. -/
import Derived.Test.YtddieenjdaociaaGreatDoorProg
import Derived.Test.YtddieenjdaociaaGreatDoorM02
import Derived.WalkKit
import Derived.KernelRfl
import Derived.Laws.Rows
import Derived.BigQuiet
import Derived.BigGuardPart
import Derived.StillTailTactics
namespace Go.Proofs.YtddieenjdaociaaGreatDoor
open Go Go.RowKit
set_option linter.unusedVariables false

/-- The tables without rows. -/
@[reducible] def t0 : Value := .agg #[.slice none 0 0, .slice none 0 0, .slice none 0 0, .slice none 0 0, .slice none 0 0, .slice none 0 0, .slice none 0 0, .slice none 0 0, .slice none 0 0, .slice none 0 0, .slice none 0 0, .slice none 0 0]
/-- Their cells. -/
@[reducible] def t0c : Array Value := #[.slice none 0 0, .slice none 0 0, .slice none 0 0, .slice none 0 0, .slice none 0 0, .slice none 0 0, .slice none 0 0, .slice none 0 0, .slice none 0 0, .slice none 0 0, .slice none 0 0, .slice none 0 0]
def colCells : Array Value := #[.slice none 0 0, .int .i64 0, .int .i64 8, .slice none 0 0, .int .i64 1, .int .i64 254, .slice none 0 0, .int .i64 0, .int .i64 5, .slice none 0 0, .int .i64 0, .int .i64 11, .slice none 0 0, .int .i64 0, .int .i64 60, .slice none 0 0, .int .i64 0, .int .i64 4, .slice none 0 0, .int .i64 1, .int .i64 1]
def mapCells : Array Value := #[.slice none 0 0, .slice none 0 0, .slice none 0 0, .slice none 0 0]
theorem colCells_at (k : Nat) (h : k < 7) : ∃ lo hi : Int, colCells[k * 3]? = some (.slice none 0 0) ∧ colCells[k * 3 + 1]? = some (.int .i64 lo) ∧ colCells[k * 3 + 2]? = some (.int .i64 hi) := by
  match k, h with
  | 0, _ => exact ⟨_, _, rfl, rfl, rfl⟩
  | 1, _ => exact ⟨_, _, rfl, rfl, rfl⟩
  | 2, _ => exact ⟨_, _, rfl, rfl, rfl⟩
  | 3, _ => exact ⟨_, _, rfl, rfl, rfl⟩
  | 4, _ => exact ⟨_, _, rfl, rfl, rfl⟩
  | 5, _ => exact ⟨_, _, rfl, rfl, rfl⟩
  | 6, _ => exact ⟨_, _, rfl, rfl, rfl⟩
theorem mapCells_at (k : Nat) (h : k < 4) : mapCells[k]? = some (.slice none 0 0) := by
  match k, h with
  | 0, _ => rfl
  | 1, _ => rfl
  | 2, _ => rfl
  | 3, _ => rfl
theorem bk_second (w : World) (o : Obj) (t : TypeId) (cs : Array Value) : Bk ((w.alloc o).alloc (.cells cs t)) (w.heap.size + 1) t cs := by
  have := Bk.new (w.alloc o) t cs
  rwa [World.size_alloc] at this
theorem below_two (w : World) (o o' : Obj) : Below w.heap.size w ((w.alloc o).alloc o') := ((Below.refl _ _).alloc (Nat.le_refl _) o).alloc (by simp) o'
theorem columns_t0 (w : World) : Calls Tryz.prog 68 #[t0] w fun e w' => ∃ g, e = .returned (.slice (some ⟨g, 0, none⟩) 7 7) ∧ Bk w' g 141 colCells ∧ w.heap.size ≤ g ∧ Below w.heap.size w w' := by
  go_enter Tryz.func68, Tryz.ntmps68
  go_wp2
  go_ret
  exact ⟨w.heap.size + 1, by simp, bk_second _ _ _ _, by omega, below_two _ _ _⟩
theorem mappings_t0 (w : World) : Calls Tryz.prog 69 #[t0] w fun e w' => ∃ g, e = .returned (.slice (some ⟨g, 0, none⟩) 4 4) ∧ Bk w' g 27 mapCells ∧ w.heap.size ≤ g ∧ Below w.heap.size w w' := by
  go_enter Tryz.func69, Tryz.ntmps69
  go_wp2
  go_ret
  exact ⟨w.heap.size + 1, by simp, bk_second _ _ _ _, by omega, below_two _ _ _⟩
theorem check_nil (w : World) : Calls Tryz.prog 70 #[.slice none 0 0, .int .i64 0, .int .i64 1114111] w fun e w' => e = .returned (.bool true) ∧ w' = w := by
  go_enter Tryz.func70, Tryz.ntmps70
  go_wp2
  refine wp_loop_rounds 1 ?_
  rw [rounds_succ]
  go_wp2
  go_ret
  exact ⟨rfl, rfl⟩
theorem col_cells {w : World} {g : Nat} (h : Bk w g 141 colCells) (k : Nat) (hk : k < 7) : ∃ lo hi : Int,
    w.cell? ⟨g, k * 3, none⟩ = some (.slice none 0 0) ∧ w.cell? ⟨g, k * 3 + 1, none⟩ = some (.int .i64 lo) ∧ w.cell? ⟨g, k * 3 + 2, none⟩ = some (.int .i64 hi) := by
  obtain ⟨lo, hi, h0, h1, h2⟩ := colCells_at k hk
  exact ⟨lo, hi, (h.cell _).trans h0, (h.cell _).trans h1, (h.cell _).trans h2⟩
theorem map_cells {w : World} {g : Nat} (h : Bk w g 27 mapCells) (k : Nat) (hk : k < 4) : w.cell? ⟨g, k, none⟩ = some (.slice none 0 0) := (h.cell _).trans (mapCells_at k hk)
theorem box_cells {w : World} {g : Nat} (h : Bk w g 30 t0c) : w.cell? ⟨g, 0, none⟩ = some (.slice none 0 0) ∧ w.cell? ⟨g, 1, none⟩ = some (.slice none 0 0) ∧ w.cell? ⟨g, 2, none⟩ = some (.slice none 0 0) ∧
    w.cell? ⟨g, 3, none⟩ = some (.slice none 0 0) ∧ w.cell? ⟨g, 4, none⟩ = some (.slice none 0 0) ∧ w.cell? ⟨g, 5, none⟩ = some (.slice none 0 0) ∧ w.cell? ⟨g, 6, none⟩ = some (.slice none 0 0) ∧ w.cell? ⟨g, 7, none⟩ = some (.slice none 0 0) ∧
    w.cell? ⟨g, 8, none⟩ = some (.slice none 0 0) ∧ w.cell? ⟨g, 9, none⟩ = some (.slice none 0 0) ∧ w.cell? ⟨g, 10, none⟩ = some (.slice none 0 0) ∧ w.cell? ⟨g, 11, none⟩ = some (.slice none 0 0) :=
  ⟨h.cell 0, h.cell 1, h.cell 2, h.cell 3, h.cell 4, h.cell 5, h.cell 6, h.cell 7, h.cell 8, h.cell 9, h.cell 10, h.cell 11⟩
set_option maxHeartbeats 1000000 in
theorem rows_t0 (w : World) : Calls Tryz.prog 38 #[t0] w fun e w' => e = .returned (.bool true) ∧ Below w.heap.size w w' := by
  go_enter Tryz.func38, Tryz.ntmps38
  go_wp2_with fail
  have hbx := Bk.new w 30 t0c
  have hb0 := (Below.refl w.heap.size w).alloc (Nat.le_refl _) (.cells t0c 30)
  refine (columns_t0 _).mono ?_
  rintro e w1 ⟨g, rfl, hg, hgl, hb1⟩
  have HBX := Lib.hid (hbx.below hb1 (by simp))
  have HB1 := Lib.hid (hb0.trans (hb1.mono (by simp)))
  have HG := Lib.hid hg
  clear hbx hb0 hb1 hg
  go_wp2_with fail
  go_loopw [3, 15] (fun ok i wr => ∃ k : Nat, k ≤ 7 ∧ i = .int .i64 k ∧ ok = .bool true ∧ Below w1.heap.size w1 wr) (fun _ i _ => 7 - (intOf i).toNat)
  case atStart => exact ⟨0, by omega, rfl, rfl, Below.refl _ _⟩
  case round =>
    obtain ⟨k, hk, rfl, rfl, hbr⟩ := hrel
    have HR := Lib.hid hbr
    clear hbr
    by_cases hlt : k < 7
    · obtain ⟨lo, hi, h0, h1, h2⟩ := col_cells (HG.out.below HR.out HG.out.lt) k hlt
      go_wp2
      go_roundw
      case rel => exact ⟨k + 1, by omega, by go_num, rfl, HR.out.alloc (by have := HR.out.size; omega) _⟩
      case measure => simp [intOf]; omega
    · obtain rfl : k = 7 := by omega
      have HBX := Lib.hid ((HBX.out.below HR.out HBX.out.lt))
      have HB1 := Lib.hid (HB1.out.trans (HR.out.mono (by have := HB1.out.size; omega)))
      clear HG HR
      obtain ⟨x0, x1, x2, x3, x4, x5, x6, x7, x8, x9, x10, x11⟩ := box_cells HBX.out
      go_wp2_with fail
      clear x0 x1 x2 x3 x4 x5 x6 x7 x8 x9 x10 x11
      refine (mappings_t0 _).mono ?_
      rintro e w2 ⟨g2, rfl, hg, hgl, hb1⟩
      have HB1 := Lib.hid (HB1.out.trans (hb1.mono (by have := HB1.out.size; omega)))
      have HG := Lib.hid hg
      clear hb1 hg HBX
      go_wp2_with fail
      go_loopw [3, 30] (fun ok i wr => ∃ k : Nat, k ≤ 4 ∧ i = .int .i64 k ∧ ok = .bool true ∧ Below w2.heap.size w2 wr) (fun _ i _ => 4 - (intOf i).toNat)
      case atStart => exact ⟨0, by omega, rfl, rfl, Below.refl _ _⟩
      case round =>
        obtain ⟨k, hk, rfl, rfl, hbr⟩ := hrel
        have HR := Lib.hid hbr
        clear hbr
        by_cases hlt : k < 4
        · have h0 := map_cells (HG.out.below HR.out HG.out.lt) k hlt
          go_wp2
          go_roundw
          case rel => exact ⟨k + 1, by omega, by go_num, rfl, HR.out⟩
          case measure => simp [intOf]; omega
        · obtain rfl : k = 4 := by omega
          have HB1 := Lib.hid (HB1.out.trans (HR.out.mono (by have := HB1.out.size; omega)))
          go_wp2
          go_ret
          exact ⟨rfl, HB1.out⟩
end Go.Proofs.YtddieenjdaociaaGreatDoor
namespace Go.Proofs.YtddieenjdaociaaGreatDoor
open Go Go.RowKit
set_option linter.unusedVariables false


set_option maxHeartbeats 1000000 in
theorem mapped_t0 (w : World) : Calls Tryz.prog 42 #[t0] w fun e w' => e = .returned (.bool true) ∧ Below w.heap.size w w' := by
  go_enter Tryz.func42, Tryz.ntmps42
  go_wp2_with fail
  refine wp_loop_rounds 1 ?_
  rw [rounds_succ]
  go_wp2_with fail
  refine wp_loop_rounds 1 ?_
  rw [rounds_succ]
  go_wp2_with fail
  go_ret
  exact ⟨rfl, (Below.refl _ _).alloc (Nat.le_refl _) _⟩

set_option maxHeartbeats 1000000 in
theorem decomposed_t0 (w : World) : Calls Tryz.prog 43 #[t0] w fun e w' => e = .returned (.bool true) ∧ Below w.heap.size w w' := by
  go_enter Tryz.func43, Tryz.ntmps43
  go_wp2_with fail
  refine wp_loop_rounds 1 ?_
  rw [rounds_succ]
  go_wp2_with fail
  refine wp_loop_rounds 1 ?_
  rw [rounds_succ]
  go_wp2_with fail
  go_ret
  exact ⟨rfl, (Below.refl _ _).alloc (Nat.le_refl _) _⟩

set_option maxHeartbeats 1000000 in
theorem excluded_t0 (w : World) : Calls Tryz.prog 44 #[t0] w fun e w' => e = .returned (.bool true) ∧ Below w.heap.size w w' := by
  go_enter Tryz.func44, Tryz.ntmps44
  go_wp2_with fail
  refine wp_loop_rounds 1 ?_
  rw [rounds_succ]
  go_wp2_with fail
  go_ret
  exact ⟨rfl, (Below.refl _ _).alloc (Nat.le_refl _) _⟩

set_option maxHeartbeats 1000000 in
theorem unique_t0 (w : World) : Calls Tryz.prog 45 #[t0] w fun e w' => e = .returned (.bool true) ∧ Below w.heap.size w w' := by
  have hmm := @run_makeMap Tryz.prog
  go_enter Tryz.func45, Tryz.ntmps45
  go_wp2_with fail
  refine wp_loop_rounds 1 ?_
  rw [rounds_succ]
  go_wp2_with fail
  go_ret
  exact ⟨rfl, below_two _ _ _⟩

set_option maxHeartbeats 1000000 in
theorem prototyped_t0 (w : World) : Calls Tryz.prog 46 #[t0] w fun e w' => e = .returned (.bool true) ∧ Below w.heap.size w w' := by
  go_enter Tryz.func46, Tryz.ntmps46
  go_wp2_with fail
  refine wp_loop_rounds 1 ?_
  rw [rounds_succ]
  go_wp2_with fail
  go_ret
  exact ⟨rfl, (Below.refl _ _).alloc (Nat.le_refl _) _⟩

set_option maxHeartbeats 1000000 in
theorem values_t0 (w : World) : Calls Tryz.prog 40 #[t0] w fun e w' => e = .returned (.bool true) ∧ Below w.heap.size w w' := by
  go_enter Tryz.func40, Tryz.ntmps40
  go_wp2_with fail
  have hbx := Bk.new w 30 t0c
  have hb0 := (Below.refl w.heap.size w).alloc (Nat.le_refl _) (.cells t0c 30)
  refine (columns_t0 _).mono ?_
  rintro e w1 ⟨g, rfl, hg, hgl, hb1⟩
  have HBX := Lib.hid (hbx.below hb1 (by simp))
  have HB1 := Lib.hid (hb0.trans (hb1.mono (by simp)))
  have HG := Lib.hid hg
  clear hbx hb0 hb1 hg
  go_wp2_with fail
  go_loopw [10] (fun i wr => ∃ k : Nat, k ≤ 7 ∧ i = .int .i64 k ∧ Below w1.heap.size w1 wr) (fun i _ => 7 - (intOf i).toNat)
  case atStart => exact ⟨0, by omega, rfl, Below.refl _ _⟩
  case round =>
    obtain ⟨k, hk, rfl, hbr⟩ := hrel
    have HR := Lib.hid hbr
    clear hbr
    by_cases hlt : k < 7
    · obtain ⟨lo, hi, h0, h1, h2⟩ := col_cells (HG.out.below HR.out HG.out.lt) k hlt
      go_wp2_with fail
      refine wp_loop_rounds 1 ?_
      rw [rounds_succ]
      go_wp2_with fail
      go_roundw
      case rel => exact ⟨k + 1, by omega, by go_num, HR.out.alloc (by have := HR.out.size; omega) _⟩
      case measure => simp [intOf]; omega
    · obtain rfl : k = 7 := by omega
      have HBX := Lib.hid ((HBX.out.below HR.out HBX.out.lt))
      have HB1 := Lib.hid (HB1.out.trans (HR.out.mono (by have := HB1.out.size; omega)))
      clear HG HR
      go_wp2_with fail
      go_ret
      exact ⟨rfl, HB1.out⟩

set_option maxHeartbeats 1000000 in
theorem targets_t0 (w : World) : Calls Tryz.prog 41 #[t0] w fun e w' => e = .returned (.bool true) ∧ Below w.heap.size w w' := by
  go_enter Tryz.func41, Tryz.ntmps41
  go_wp2_with fail
  have hbx := Bk.new w 30 t0c
  have hb0 := (Below.refl w.heap.size w).alloc (Nat.le_refl _) (.cells t0c 30)
  refine (mappings_t0 _).mono ?_
  rintro e w2 ⟨g2, rfl, hg, hgl, hb2⟩
  have HBY := Lib.hid (hbx.below hb2 (by simp))
  have HB2 := Lib.hid (hb0.trans (hb2.mono (by simp)))
  have HG := Lib.hid hg
  clear hbx hb0 hb2 hg
  go_wp2_with fail
  go_loopw [12] (fun i wr => ∃ k : Nat, k ≤ 4 ∧ i = .int .i64 k ∧ Below w2.heap.size w2 wr) (fun i _ => 4 - (intOf i).toNat)
  case atStart => exact ⟨0, by omega, rfl, Below.refl _ _⟩
  case round =>
    obtain ⟨k, hk, rfl, hbr⟩ := hrel
    have HR := Lib.hid hbr
    clear hbr
    by_cases hlt : k < 4
    · have h0 := map_cells (HG.out.below HR.out HG.out.lt) k hlt
      go_wp2_with fail
      refine wp_loop_rounds 1 ?_
      rw [rounds_succ]
      go_wp2_with fail
      go_roundw
      case rel => exact ⟨k + 1, by omega, by go_num, HR.out⟩
      case measure => simp [intOf]; omega
    · obtain rfl : k = 4 := by omega
      have HB3 := Lib.hid (HB2.out.trans (HR.out.mono (by have := HB2.out.size; omega)))
      go_wp2_with fail
      go_ret
      exact ⟨rfl, HB3.out⟩

set_option maxHeartbeats 1000000 in
theorem shape_t0 (w : World) : Calls Tryz.prog 39 #[t0] w fun e w' => e = .returned (.bool true) ∧ Below w.heap.size w w' := by
  go_enter Tryz.func39, Tryz.ntmps39
  go_wp2_with fail
  have hbx := Bk.new w 30 t0c
  have hb0 := (Below.refl w.heap.size w).alloc (Nat.le_refl _) (.cells t0c 30)
  refine (columns_t0 _).mono ?_
  rintro e w1 ⟨g, rfl, hg, hgl, hb1⟩
  have HBX := Lib.hid (hbx.below hb1 (by simp))
  have HB1 := Lib.hid (hb0.trans (hb1.mono (by simp)))
  have HG := Lib.hid hg
  clear hbx hb0 hb1 hg
  go_wp2_with fail
  go_loopw [18] (fun i wr => ∃ k : Nat, k ≤ 7 ∧ i = .int .i64 k ∧ Below w1.heap.size w1 wr) (fun i _ => 7 - (intOf i).toNat)
  case atStart => exact ⟨0, by omega, rfl, Below.refl _ _⟩
  case round =>
    obtain ⟨k, hk, rfl, hbr⟩ := hrel
    have HR := Lib.hid hbr
    clear hbr
    by_cases hlt : k < 7
    · obtain ⟨lo, hi, h0, h1, h2⟩ := col_cells (HG.out.below HR.out HG.out.lt) k hlt
      go_wp2_with (go_at_call 70; refine (check_nil _).mono ?_; rintro e w' ⟨rfl, rfl⟩)
      refine wp_loop_rounds 1 ?_
      rw [rounds_succ]
      go_wp2_with fail
      go_roundw
      case rel => exact ⟨k + 1, by omega, by go_num, HR.out.alloc (by have := HR.out.size; omega) _⟩
      case measure => simp [intOf]; omega
    · obtain rfl : k = 7 := by omega
      have HBX := Lib.hid ((HBX.out.below HR.out HBX.out.lt))
      have HB1 := Lib.hid (HB1.out.trans (HR.out.mono (by have := HB1.out.size; omega)))
      clear HG HR
      obtain ⟨x0, x1, x2, x3, x4, x5, x6, x7, x8, x9, x10, x11⟩ := box_cells HBX.out
      go_wp2_with fail
      clear x0 x1 x2 x3 x4 x5 x6 x7 x8 x9 x10 x11
      refine (mappings_t0 _).mono ?_
      rintro e w2 ⟨g2, rfl, hg, hgl, hb2⟩
      have HBY := Lib.hid (HBX.out.below hb2 HBX.out.lt)
      have HB2 := Lib.hid (HB1.out.trans (hb2.mono (by have := HB1.out.size; omega)))
      have HG := Lib.hid hg
      clear hb2 hg HBX HB1
      go_wp2_with fail
      go_loopw [41] (fun i wr => ∃ k : Nat, k ≤ 4 ∧ i = .int .i64 k ∧ Below w2.heap.size w2 wr) (fun i _ => 4 - (intOf i).toNat)
      case atStart => exact ⟨0, by omega, rfl, Below.refl _ _⟩
      case round =>
        obtain ⟨k, hk, rfl, hbr⟩ := hrel
        have HR := Lib.hid hbr
        clear hbr
        by_cases hlt : k < 4
        · have h0 := map_cells (HG.out.below HR.out HG.out.lt) k hlt
          go_wp2_with fail
          refine wp_loop_rounds 1 ?_
          rw [rounds_succ]
          go_wp2_with fail
          go_roundw
          case rel => exact ⟨k + 1, by omega, by go_num, HR.out⟩
          case measure => simp [intOf]; omega
        · obtain rfl : k = 4 := by omega
          have HB3 := Lib.hid (HB2.out.trans (HR.out.mono (by have := HB2.out.size; omega)))
          have y10 := (HBY.out.below HR.out HBY.out.lt).cell 10
          have y10 : wr.cell? ⟨w.heap.size, 10, none⟩ = some (.slice none 0 0) := y10
          go_wp2_with fail
          refine wp_loop_rounds 1 ?_
          rw [rounds_succ]
          go_wp2_with fail
          go_ret
          exact ⟨rfl, HB3.out⟩

end Go.Proofs.YtddieenjdaociaaGreatDoor
