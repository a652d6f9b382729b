/- joiner, context, valid at the tables without rows, on small letters. -/
import Derived.Test.YtddieenjdaociaaGreatDoorTpKZ
namespace Go.Proofs.YtddieenjdaociaaGreatDoor
open Go Go.RowKit Go.Shelf
set_option linter.unusedVariables false

theorem low_cell {w : World} {B n : Nat} {A : Option Addr} {l : List Int} (h : Rd w B 1 A n (ints l)) (hl : Low l) {k : Nat} (hk : k < n) :
    ∃ b off c, A = some ⟨b, off, none⟩ ∧ b < B ∧ (97 ≤ c ∧ c ≤ 122) ∧ w.cell? ⟨b, off + k, none⟩ = some (.int .i64 c) := by
  obtain ⟨b, off, c, h1, h2, h3, h4⟩ := ints_cell h hk
  exact ⟨b, off, c, h1, h2, hl c (List.mem_of_getElem? h3), h4⟩
set_option maxRecDepth 100000 in
set_option maxHeartbeats 1000000 in
theorem jperm_low (A : Option Addr) (n c k : Nat) (l : List Int) (B : Nat) (w : World) (hr : Rd w B 1 A n (ints l)) (hB : B ≤ w.heap.size) (hn : n ≤ 4096) (ha : Low l) (hk : k < n) :
    Calls Tryz.prog 228 #[t0, .slice A n c, .int .i64 (k : Int)] w fun e w' => e = .returned (.bool true) ∧ Below w.heap.size w w' := by
  obtain ⟨b, off, cc, rfl, hb, ⟨g0, g1⟩, hcell⟩ := low_cell (hr.alloc hB (.cells t0c 30)) ha hk
  have e1 : (cc != 8204) = true := by simp; omega
  have e2 : (cc != 8205) = true := by simp; omega
  clear hr
  go_enter Tryz.func228, Tryz.ntmps228
  go_wp2_with fail
  go_ret
  exact ⟨rfl, (Below.refl _ _).alloc (Nat.le_refl _) _⟩
set_option maxRecDepth 100000 in
set_option maxHeartbeats 1000000 in
theorem jcheck_low (A : Option Addr) (n c : Nat) (l : List Int) (B : Nat) (w : World) (hr : Rd w B 1 A n (ints l)) (hB : B ≤ w.heap.size) (hn : n ≤ 4096) (ha : Low l) :
    Calls Tryz.prog 208 #[t0, .slice A n c] w fun e w' => e = .returned (.tuple #[.int .i64 0, .int .i64 0]) ∧ Below w.heap.size w w' := by
  have HA := Lib.hid ha
  have HX := Lib.hid (Bk.new w 30 t0c)
  have HB0 := Lib.hid ((Below.refl w.heap.size w).alloc (Nat.le_refl _) (.cells t0c 30))
  have HR0 := Lib.hid (hr.alloc hB (.cells t0c 30)); clear hr ha
  go_enter Tryz.func208, Tryz.ntmps208
  go_wp2_with fail
  refine (order_ascii A n c l B _ HR0.out (by simp; omega) hn HA.out.let_).mono ?_
  rintro e w1 ⟨A1, c1, rfl, _, hb1⟩
  have HX1 := Lib.hid (HX.out.below hb1 HX.out.lt)
  have HR1 := Lib.hid (HR0.out.below (hb1.mono (by simp; omega)))
  have HB1 := Lib.hid (HB0.out.trans (hb1.mono (by simp)))
  have hs1 : w.heap.size + 1 ≤ w1.heap.size := by have := hb1.size; simp at this; omega
  clear hb1 HX HR0 HB0
  go_wp2_with fail
  go_loopw [20] (fun vi wr => ∃ (k : Nat), k ≤ n ∧ vi = .int .i64 k ∧ Below w1.heap.size w1 wr) (fun vi _ => n - (intOf vi).toNat)
  case atStart => exact ⟨0, by omega, rfl, Below.refl _ _⟩
  case round =>
    obtain ⟨k, hk, rfl, hb⟩ := hrel
    have HB := Lib.hid hb
    have hsw := hb.size
    have HX2 := Lib.hid (HX1.out.below hb HX1.out.lt)
    clear hb
    by_cases hlt : k < n
    · obtain ⟨x0, x1, x2, x3, x4, x5, x6, x7, x8, x9, x10, x11⟩ := box_cells HX2.out
      go_wp2_with fail
      clear x0 x1 x2 x3 x4 x5 x6 x7 x8 x9 x10 x11
      refine (jperm_low A n c k l B _ (HR1.out.below (HB.out.mono (by omega))) (by omega) hn HA.out hlt).mono ?_
      rintro e w3 ⟨rfl, hb3⟩
      have HB3 := Lib.hid (HB.out.trans (hb3.mono (by omega)))
      clear hb3
      go_wp2
      go_roundw
      case rel => exact ⟨k + 1, by omega, by go_num, HB3.out⟩
      case measure => simp [intOf]; omega
    · obtain rfl : k = n := by omega
      go_wp2
      go_ret2
      exact ⟨rfl, HB1.out.trans (HB.out.mono (by omega))⟩
theorem arabic_low (c : Int) (h : c ≤ 122) (w : World) : Calls Tryz.prog 245 #[.int .i64 c] w fun e w' => e = .returned (.bool false) ∧ w' = w := by
  have h1 : c < 1632 := by omega
  go_enter Tryz.func245, Tryz.ntmps245
  go_wp2_with fail
  go_ret
  exact ⟨rfl, rfl⟩
theorem extended_low (c : Int) (h : c ≤ 122) (w : World) : Calls Tryz.prog 246 #[.int .i64 c] w fun e w' => e = .returned (.bool false) ∧ w' = w := by
  have h1 : ¬ (1776 ≤ c) := by omega
  have h2 : decide (1776 ≤ c) = false := by simp; omega
  go_enter Tryz.func246, Tryz.ntmps246
  go_wp2_with fail
  go_ret
  exact ⟨rfl, rfl⟩
set_option maxRecDepth 100000 in
set_option maxHeartbeats 1000000 in
theorem cperm_low (A : Option Addr) (n c k : Nat) (l : List Int) (B : Nat) (w : World) (hr : Rd w B 1 A n (ints l)) (hB : B ≤ w.heap.size) (hn : n ≤ 4096) (ha : Low l) (hk : k < n) :
    Calls Tryz.prog 229 #[t0, .slice A n c, .int .i64 (k : Int)] w fun e w' => e = .returned (.bool true) ∧ Below w.heap.size w w' := by
  obtain ⟨b, off, cc, rfl, hb, ⟨g0, g1⟩, hcell⟩ := low_cell (hr.alloc hB (.cells t0c 30)) ha hk
  have e1 : (cc == 183) = false := by simp; omega
  have e2 : (cc == 885) = false := by simp; omega
  have e3 : (cc == 1523) = false := by simp; omega
  have e4 : (cc == 1524) = false := by simp; omega
  have e5 : (cc == 12539) = false := by simp; omega
  clear hr
  go_enter Tryz.func229, Tryz.ntmps229
  go_wp2_with fail
  refine (arabic_low cc g1 _).mono ?_
  rintro e w1 ⟨rfl, rfl⟩
  go_wp2_with fail
  refine (extended_low cc g1 _).mono ?_
  rintro e w1 ⟨rfl, rfl⟩
  go_wp2_with fail
  go_ret
  exact ⟨rfl, (Below.refl _ _).alloc (Nat.le_refl _) _⟩
set_option maxRecDepth 100000 in
set_option maxHeartbeats 1000000 in
theorem ccheck_low (A : Option Addr) (n c : Nat) (l : List Int) (B : Nat) (w : World) (hr : Rd w B 1 A n (ints l)) (hB : B ≤ w.heap.size) (hn : n ≤ 4096) (ha : Low l) :
    Calls Tryz.prog 209 #[t0, .slice A n c] w fun e w' => e = .returned (.tuple #[.int .i64 0, .int .i64 0]) ∧ Below w.heap.size w w' := by
  have HA := Lib.hid ha
  have HX := Lib.hid (Bk.new w 30 t0c)
  have HB0 := Lib.hid ((Below.refl w.heap.size w).alloc (Nat.le_refl _) (.cells t0c 30))
  have HR0 := Lib.hid (hr.alloc hB (.cells t0c 30)); clear hr ha
  go_enter Tryz.func209, Tryz.ntmps209
  go_wp2_with fail
  refine (order_ascii A n c l B _ HR0.out (by simp; omega) hn HA.out.let_).mono ?_
  rintro e w1 ⟨A1, c1, rfl, _, hb1⟩
  have HX1 := Lib.hid (HX.out.below hb1 HX.out.lt)
  have HR1 := Lib.hid (HR0.out.below (hb1.mono (by simp; omega)))
  have HB1 := Lib.hid (HB0.out.trans (hb1.mono (by simp)))
  have hs1 : w.heap.size + 1 ≤ w1.heap.size := by have := hb1.size; simp at this; omega
  clear hb1 HX HR0 HB0
  go_wp2_with fail
  go_loopw [20] (fun vi wr => ∃ (k : Nat), k ≤ n ∧ vi = .int .i64 k ∧ Below w1.heap.size w1 wr) (fun vi _ => n - (intOf vi).toNat)
  case atStart => exact ⟨0, by omega, rfl, Below.refl _ _⟩
  case round =>
    obtain ⟨k, hk, rfl, hb⟩ := hrel
    have HB := Lib.hid hb
    have hsw := hb.size
    have HX2 := Lib.hid (HX1.out.below hb HX1.out.lt)
    clear hb
    by_cases hlt : k < n
    · obtain ⟨x0, x1, x2, x3, x4, x5, x6, x7, x8, x9, x10, x11⟩ := box_cells HX2.out
      go_wp2_with fail
      clear x0 x1 x2 x3 x4 x5 x6 x7 x8 x9 x10 x11
      refine (cperm_low A n c k l B _ (HR1.out.below (HB.out.mono (by omega))) (by omega) hn HA.out hlt).mono ?_
      rintro e w3 ⟨rfl, hb3⟩
      have HB3 := Lib.hid (HB.out.trans (hb3.mono (by omega)))
      clear hb3
      go_wp2
      go_roundw
      case rel => exact ⟨k + 1, by omega, by go_num, HB3.out⟩
      case measure => simp [intOf]; omega
    · obtain rfl : k = n := by omega
      go_wp2
      go_ret2
      exact ⟨rfl, HB1.out.trans (HB.out.mono (by omega))⟩
set_option maxRecDepth 100000 in
set_option maxHeartbeats 1000000 in
theorem hyphens_low (A : Option Addr) (n c : Nat) (l : List Int) (B : Nat) (w : World) (hr : Rd w B 1 A n (ints l)) (hn : n ≤ 4096) (h0 : 0 < n) (ha : Low l) :
    Calls Tryz.prog 206 #[.slice A n c] w fun e w' => e = .returned (.bool true) ∧ w' = w := by
  obtain ⟨b, off, c0, rfl, hb, ⟨g0, g1⟩, hcell0⟩ := low_cell hr ha h0
  obtain ⟨j, rfl⟩ : ∃ j, n = j + 1 := ⟨n - 1, by omega⟩
  obtain ⟨b1, off1, c1, hA1, _, ⟨k0, k1⟩, hcell1⟩ := low_cell hr ha (show j < j + 1 by omega)
  injection hA1 with hA1; injection hA1 with hA1 hA2; subst hA1; subst hA2
  rw [Nat.add_zero] at hcell0
  have e0 : (c0 != 45) = true := by simp; omega
  have e1 : (c1 != 45) = true := by simp; omega
  have ez : (((j : Int) + 1) == 0) = false := by simp; omega
  by_cases h4 : j + 1 < 4
  · have h4i : (j : Int) + 1 < 4 := by omega
    clear hr
    go_enter Tryz.func206, Tryz.ntmps206
    go_wp2_with fail
    go_ret
    exact ⟨rfl, rfl⟩
  · obtain ⟨b2, off2, c2, hA2, _, ⟨m0, m1⟩, hcell2⟩ := low_cell hr ha (show 2 < j + 1 by omega)
    injection hA2 with hA2; injection hA2 with hA2 hA3; subst hA2; subst hA3
    have e2 : (c2 != 45) = true := by simp; omega
    have h4i : ¬ ((j : Int) + 1 < 4) := by omega
    clear hr
    go_enter Tryz.func206, Tryz.ntmps206
    go_wp2_with fail
    go_ret
    exact ⟨rfl, rfl⟩
end Go.Proofs.YtddieenjdaociaaGreatDoor
