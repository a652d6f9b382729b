/- valid.Check, bidi, idna.label at the tables without rows, on small letters. idna at the tables without rows, on a name of one label of letters. -/
import Derived.Test.YtddieenjdaociaaGreatDoorTpLZ
import Derived.Test.YtddieenjdaociaaGreatDoorTpNmZ
import Derived.Deep.RegionHeld3
import Derived.Deep.RegionWith
namespace Go.Proofs.YtddieenjdaociaaGreatDoor
open Go Go.RowKit Go.Shelf
set_option linter.unusedVariables false

set_option maxRecDepth 100000 in
set_option maxHeartbeats 2000000 in
theorem vcheck_low (A : Option Addr) (n c : Nat) (l : List Int) (B : Nat) (w : World) (hr : Rd w B 1 A n (ints l)) (hB : B ≤ w.heap.size) (hn : n ≤ 4096) (h0 : 0 < n) (ha : Low l) :
    Calls Tryz.prog 185 #[t0, .slice A n c] w fun e w' => e = .returned (.int .i64 0) ∧ Below w.heap.size w w' := by
  have HA := Lib.hid ha
  have HX := Lib.hid (Bk.new w 30 t0c)
  have HB0 := Lib.hid ((Below.refl w.heap.size w).alloc (Nat.le_refl _) (.cells t0c 30))
  have HR0 := Lib.hid (hr.alloc hB (.cells t0c 30)); clear hr ha
  have hz : ((n : Int) == 0) = false := by simp; omega
  go_enter Tryz.func185, Tryz.ntmps185
  go_wp2_with fail
  refine (order_ascii A n c l B _ HR0.out (by simp; omega) hn HA.out.let_).mono ?_
  rintro e w1 ⟨A1, c1, rfl, _, hb1⟩
  have HX1 := Lib.hid (HX.out.below hb1 HX.out.lt)
  have HR1 := Lib.hid (HR0.out.below (hb1.mono (by simp; omega)))
  have HB1 := Lib.hid (HB0.out.trans (hb1.mono (by simp)))
  have hs1 : w.heap.size + 1 ≤ w1.heap.size := by have := hb1.size; simp at this; omega
  clear hb1 HX HR0 HB0
  obtain ⟨x0, x1, x2, x3, x4, x5, x6, x7, x8, x9, x10, x11⟩ := box_cells HX1.out
  go_wp2_with fail
  clear x0 x1 x2 x3 x4 x5 x6 x7 x8 x9 x10 x11
  refine (isnfc_ascii A n c l B _ HR1.out (by omega) hn HA.out.let_).mono ?_
  rintro e w2 ⟨rfl, hb2⟩
  have HX2 := Lib.hid (HX1.out.below hb2 HX1.out.lt)
  have HR2 := Lib.hid (HR1.out.below (hb2.mono (by omega)))
  have HB2 := Lib.hid (HB1.out.trans (hb2.mono (by omega)))
  have hs2 := hb2.size
  clear hb2 HX1 HR1 HB1
  go_wp2_with fail
  refine (hyphens_low A n c l B _ HR2.out hn h0 HA.out).mono ?_
  rintro e w3 ⟨rfl, rfl⟩
  obtain ⟨b, off, c0, rfl, hb, ⟨g0, g1⟩, hcell⟩ := low_cell HR2.out HA.out h0
  rw [Nat.add_zero] at hcell
  obtain ⟨x0, x1, x2, x3, x4, x5, x6, x7, x8, x9, x10, x11⟩ := box_cells HX2.out
  go_wp2_with fail
  go_still_tail 4, (by kernel_rfl)
  change wpList _ _ _ _ _ w3.drew
  clear x0 x1 x2 x3 x4 x5 x6 x7 x8 x9 x10 x11 hcell
  go_wp2_with fail
  refine (category_low c0 g0 g1 _).mono ?_
  rintro e w4 ⟨rfl, hb4⟩
  have HX4 := Lib.hid ((HX2.out.drew).below hb4 HX2.out.lt)
  have HR4 := Lib.hid ((HR2.out.drew).below (hb4.mono (by show B ≤ w3.heap.size; omega)))
  have HB4 := Lib.hid (HB2.out.drew.trans (hb4.mono (by show w.heap.size ≤ w3.heap.size; omega)))
  have hs4 : w3.heap.size ≤ w4.heap.size := hb4.size
  clear hb4 HX2 HR2 HB2
  go_wp2_with fail
  go_loopw [41] (fun vi wr => ∃ (k : Nat), k ≤ n ∧ vi = .int .i64 k ∧ Below w4.heap.size w4 wr) (fun vi _ => n - (intOf vi).toNat)
  case atStart => exact ⟨0, by omega, rfl, Below.refl _ _⟩
  case round =>
    obtain ⟨k, hk, rfl, hb⟩ := hrel
    have HB := Lib.hid hb
    have hsw := hb.size
    have HX5 := Lib.hid (HX4.out.below hb HX4.out.lt)
    have HR5 := Lib.hid (HR4.out.below (hb.mono (by omega)))
    clear hb
    obtain ⟨x0, x1, x2, x3, x4, x5, x6, x7, x8, x9, x10, x11⟩ := box_cells HX5.out
    by_cases hlt : k < n
    · obtain ⟨b5, off5, c5, hA5, hb5, ⟨q0, q1⟩, hcell5⟩ := low_cell HR5.out HA.out hlt
      injection hA5 with hA5; injection hA5 with hA5 hA6; subst hA5; subst hA6
      have e46 : (c5 == 46) = false := by simp; omega
      go_wp2_with fail
      clear x0 x1 x2 x3 x4 x5 x6 x7 x8 x9 x10 x11 hcell5
      refine (status_low c5 q0 q1 _).mono ?_
      rintro e w6 ⟨rfl, hb6⟩
      have HB6 := Lib.hid (HB.out.trans (hb6.mono (by omega)))
      clear hb6
      go_wp2
      go_roundw
      case rel => exact ⟨k + 1, by omega, by go_num, HB6.out⟩
      case measure => simp [intOf]; omega
    · obtain rfl : k = n := by omega
      go_wp2_with fail
      clear x0 x1 x2 x3 x4 x5 x6 x7 x8 x9 x10 x11
      refine (jcheck_low _ k c l B _ HR5.out (by omega) hn HA.out).mono ?_
      rintro e w6 ⟨rfl, hb6⟩
      have HX6 := Lib.hid (HX5.out.below hb6 HX5.out.lt)
      have HR6 := Lib.hid (HR5.out.below (hb6.mono (by omega)))
      have HB6 := Lib.hid ((HB4.out.trans (HB.out.mono (by omega))).trans (hb6.mono (by omega)))
      have hs6 := hb6.size
      clear hb6
      obtain ⟨x0, x1, x2, x3, x4, x5, x6, x7, x8, x9, x10, x11⟩ := box_cells HX6.out
      go_wp2_with fail
      clear x0 x1 x2 x3 x4 x5 x6 x7 x8 x9 x10 x11
      refine (ccheck_low _ k c l B _ HR6.out (by omega) hn HA.out).mono ?_
      rintro e w7 ⟨rfl, hb7⟩
      have HB7 := Lib.hid (HB6.out.trans (hb7.mono (by omega)))
      clear hb7
      go_wp2
      go_ret
      exact ⟨rfl, HB7.out⟩
theorem of_zero (w : World) : Calls Tryz.prog 212 #[.int .i64 0] w fun e w' => e = .returned (.int .i64 1) ∧ w' = w := by
  go_enter Tryz.func212, Tryz.ntmps212
  go_wp2_with fail
  go_ret
  exact ⟨rfl, rfl⟩
theorem meets_no (w : World) : Calls Tryz.prog 211 #[.int .i64 1, .int .i64 14] w fun e w' => e = .returned (.bool false) ∧ w' = w := by
  go_enter Tryz.func211, Tryz.ntmps211
  go_wp2_with fail
  go_ret
  exact ⟨rfl, rfl⟩
/-- 0 for no letter, 1 for some. -/
def some01 (k : Nat) : Int := if k = 0 then 0 else 1
set_option maxRecDepth 100000 in
set_option maxHeartbeats 1000000 in
theorem classes_low (A : Option Addr) (n c : Nat) (l : List Int) (B : Nat) (w : World) (hr : Rd w B 1 A n (ints l)) (hB : B ≤ w.heap.size) (hn : n ≤ 4096) (h0 : 0 < n) (ha : Low l) :
    Calls Tryz.prog 210 #[t0, .slice A n c] w fun e w' => e = .returned (.int .i64 1) ∧ Below w.heap.size w w' := by
  have HA := Lib.hid ha
  have HX := Lib.hid (Bk.new w 30 t0c)
  have HB0 := Lib.hid ((Below.refl w.heap.size w).alloc (Nat.le_refl _) (.cells t0c 30))
  have HR0 := Lib.hid (hr.alloc hB (.cells t0c 30)); clear hr ha
  go_enter Tryz.func210, Tryz.ntmps210
  go_wp2_with fail
  generalize hw1 : w.alloc (.cells t0c 30) = w1 at *
  have hs1 : w1.heap.size = w.heap.size + 1 := by rw [← hw1]; simp
  have HS1 := Lib.hid hs1
  have hs1' : w.heap.size + 1 ≤ w1.heap.size := by omega
  clear hw1 hs1
  go_loopw [5, 10] (fun vs vi wr => ∃ (k : Nat), k ≤ n ∧ vi = .int .i64 k ∧ vs = .int .i64 (some01 k) ∧ Below w1.heap.size w1 wr) (fun _ vi _ => n - (intOf vi).toNat)
  case atStart => exact ⟨0, by omega, rfl, rfl, Below.refl _ _⟩
  case round =>
    obtain ⟨k, hk, rfl, rfl, hb⟩ := hrel
    have HB := Lib.hid hb
    have hsw := hb.size
    have HX2 := Lib.hid (HX.out.below hb HX.out.lt)
    have HR2 := Lib.hid (HR0.out.below (hb.mono (by omega)))
    clear hb
    by_cases hlt : k < n
    · obtain ⟨b5, off5, c5, rfl, hb5, ⟨q0, q1⟩, hcell5⟩ := low_cell HR2.out HA.out hlt
      obtain ⟨x0, x1, x2, x3, x4, x5, x6, x7, x8, x9, x10, x11⟩ := box_cells HX2.out
      have hk1 : some01 (k + 1) = 1 := rfl
      go_wp2_with fail
      clear x0 x1 x2 x3 x4 x5 x6 x7 x8 x9 x10 x11 hcell5
      refine (bidi_low c5 q0 q1 _).mono ?_
      rintro e w6 ⟨rfl, hb6⟩
      have HB6 := Lib.hid (HB.out.trans (hb6.mono (by omega)))
      clear hb6
      go_wp2_with fail
      refine (of_zero _).mono ?_
      rintro e w7 ⟨rfl, rfl⟩
      by_cases hk0 : k = 0
      · subst hk0
        have e0 : some01 0 = 0 := rfl
        rw [e0]
        clear e0
        go_wp2
        go_roundw
        case rel => exact ⟨1, by omega, by go_num, rfl, HB6.out⟩
        case measure => simp [intOf]; omega
      · have e0 : some01 k = 1 := if_neg hk0
        rw [e0]
        clear e0
        go_wp2
        go_roundw
        case rel => exact ⟨k + 1, by omega, by go_num, rfl, HB6.out⟩
        case measure => simp [intOf]; omega
    · obtain rfl : k = n := by omega
      have e0 : some01 k = 1 := if_neg (by omega)
      rw [e0]
      clear e0
      go_wp2
      go_ret
      exact ⟨rfl, HB0.out.trans (HB.out.mono (by omega))⟩
set_option maxHeartbeats 1000000 in
theorem rtl_low (A : Option Addr) (n c : Nat) (l : List Int) (B : Nat) (w : World) (hr : Rd w B 1 A n (ints l)) (hB : B ≤ w.heap.size) (hn : n ≤ 4096) (h0 : 0 < n) (ha : Low l) :
    Calls Tryz.prog 186 #[t0, .slice A n c] w fun e w' => e = .returned (.bool false) ∧ Below w.heap.size w w' := by
  have HA := Lib.hid ha
  have HX := Lib.hid (Bk.new w 30 t0c)
  have HB0 := Lib.hid ((Below.refl w.heap.size w).alloc (Nat.le_refl _) (.cells t0c 30))
  have HR0 := Lib.hid (hr.alloc hB (.cells t0c 30)); clear hr ha
  go_enter Tryz.func186, Tryz.ntmps186
  go_wp2_with fail
  refine (order_ascii A n c l B _ HR0.out (by simp; omega) hn HA.out.let_).mono ?_
  rintro e w1 ⟨A1, c1, rfl, _, hb1⟩
  have HX1 := Lib.hid (HX.out.below hb1 HX.out.lt)
  have HR1 := Lib.hid (HR0.out.below (hb1.mono (by simp; omega)))
  have HB1 := Lib.hid (HB0.out.trans (hb1.mono (by simp)))
  have hs1 : w.heap.size + 1 ≤ w1.heap.size := by have := hb1.size; simp at this; omega
  clear hb1 HX HR0 HB0
  obtain ⟨x0, x1, x2, x3, x4, x5, x6, x7, x8, x9, x10, x11⟩ := box_cells HX1.out
  go_wp2_with fail
  clear x0 x1 x2 x3 x4 x5 x6 x7 x8 x9 x10 x11
  refine (classes_low A n c l B _ HR1.out (by omega) hn h0 HA.out).mono ?_
  rintro e w2 ⟨rfl, hb2⟩
  have HB2 := Lib.hid (HB1.out.trans (hb2.mono (by omega)))
  clear hb2
  go_wp2_with fail
  refine (meets_no _).mono ?_
  rintro e w3 ⟨rfl, rfl⟩
  go_wp2_with fail
  go_ret
  exact ⟨rfl, HB2.out⟩
set_option maxRecDepth 100000 in
set_option maxHeartbeats 2000000 in
/-- A name of one label. -/
theorem domain_low (A A' : Option Addr) (n c c' : Nat) (l : List Int) (B : Nat) (w : World) (hr : Rd w B 1 A 1 [.slice A' n c']) (hi : Rd w B 1 A' n (ints l)) (hB : B ≤ w.heap.size) (hn : n ≤ 4096) (h0 : 0 < n) (ha : Low l) :
    Calls Tryz.prog 161 #[t0, .slice A 1 c] w fun e w' => e = .returned (.tuple #[.int .i64 0, .int .i64 0]) ∧ Below w.heap.size w w' := by
  have HA := Lib.hid ha
  have HX := Lib.hid (Bk.new w 30 t0c)
  have HB0 := Lib.hid ((Below.refl w.heap.size w).alloc (Nat.le_refl _) (.cells t0c 30))
  have HR0 := Lib.hid (hr.alloc hB (.cells t0c 30))
  have HI0 := Lib.hid (hi.alloc hB (.cells t0c 30))
  obtain ⟨b, off, u, rfl, hb, hu, hcell⟩ := HR0.out.at_ (show 0 < 1 by omega)
  obtain rfl : u = .slice A' n c' := by injection hu with hu; exact hu.symm
  have hcell0 : (w.alloc (.cells t0c 30)).cell? ⟨b, off, none⟩ = some (.slice A' n c') := hcell
  clear hr hi ha hu hcell
  have HCE := Lib.hid hcell0
  have HOUT := Lib.hid hb
  go_enter Tryz.func161, Tryz.ntmps161
  go_wp2_with fail
  refine wp_loop_rounds 2 ?_
  rw [rounds_succ]
  go_wp2_with fail
  refine (order_ascii A' n c' l B _ HI0.out (by simp; omega) hn HA.out.let_).mono ?_
  rintro e w1 ⟨A1, c1, rfl, _, hb1⟩
  have HX1 := Lib.hid (HX.out.below hb1 HX.out.lt)
  have HI1 := Lib.hid (HI0.out.below (hb1.mono (by simp; omega)))
  have hc1 : w1.cell? ⟨b, off, none⟩ = some (.slice A' n c') := (hb1.cell (p := ⟨b, off, none⟩) (by simp; omega)).trans hcell0
  have HC1 := Lib.hid hc1
  have HB1 := Lib.hid (HB0.out.trans (hb1.mono (by simp)))
  have hs1 : w.heap.size + 1 ≤ w1.heap.size := by have := hb1.size; simp at this; omega
  clear hb1 HX HI0 HB0 hcell0 hc1 HCE
  obtain ⟨x0, x1, x2, x3, x4, x5, x6, x7, x8, x9, x10, x11⟩ := box_cells HX1.out
  go_wp2_with fail
  clear x0 x1 x2 x3 x4 x5 x6 x7 x8 x9 x10 x11
  refine (rtl_low A' n c' l B _ HI1.out (by omega) hn h0 HA.out).mono ?_
  rintro e w2 ⟨rfl, hb2⟩
  have hc2 : w2.cell? ⟨b, off, none⟩ = some (.slice A' n c') := (hb2.cell (p := ⟨b, off, none⟩) (by show b < w1.heap.size; omega)).trans HC1.out
  have HB2 := Lib.hid (HB1.out.trans (hb2.mono (by omega)))
  clear hb2
  go_wp2_with fail
  rw [rounds_succ]
  go_wp2_with fail
  refine wp_loop_rounds 2 ?_
  rw [rounds_succ]
  go_wp2_with fail
  rw [rounds_succ]
  go_wp2_with fail
  go_ret2
  exact ⟨rfl, HB2.out⟩
end Go.Proofs.YtddieenjdaociaaGreatDoor
namespace Go.Proofs.YtddieenjdaociaaGreatDoor
open Go Go.RowKit Go.Shelf
set_option linter.unusedVariables false

theorem isX_no {l : List Int} (h : Low l) : Al.isX (l.map byt) = false := by
  unfold Al.isX
  rw [Bool.and_eq_false_iff]
  by_cases h4 : 4 ≤ (l.map byt).length
  · right
    rw [decide_eq_false_iff_not]
    intro e
    have h2 : 2 < l.length := by rw [List.length_map] at h4; omega
    have e2 := congrArg (fun x : List UInt8 => x[2]?) e
    have hc := h l[2] (List.getElem_mem h2)
    unfold Lo at hc
    have hb := byt_num l[2] (by omega) (by omega)
    have e3 : (Al.low ((l.map byt).take 4))[2]? = some (Al.lb (byt l[2])) := by
      unfold Al.low
      rw [List.getElem?_map, List.getElem?_take, if_pos (by omega), List.getElem?_map, List.getElem?_eq_getElem h2]; rfl
    rw [e3] at e2
    have e4 : Al.lb (byt l[2]) = 45 := by injection e2
    rw [Al.lb_else (by omega)] at e4
    rw [e4] at hb
    have : ((45 : UInt8).toNat : Int) = 45 := rfl
    omega
  · left
    exact decide_eq_false h4
set_option maxHeartbeats 1000000 in
theorem label_low (A : Option Addr) (n c : Nat) (l : List Int) (B : Nat) (w : World) (hr : Rd w B 1 A n (ints l)) (hB : B ≤ w.heap.size) (hn : n ≤ 4096) (h0 : 0 < n) (ha : Low l) :
    Calls Tryz.prog 160 #[t0, .slice A n c] w fun e w' => e = .returned (.tuple #[.slice A n c, .int .i64 0]) ∧ Below w.heap.size w w' := by
  have hl : l.length = n := by have := hr.1; rw [ints_length] at this; omega
  have hec := fun w hr hB => encode_ascii A c l B w hr hB (by omega) ha.let_
  have hix := fun w => is_any (str (l.map byt)) (by rw [str_size, List.length_map]; unfold maxLen; omega) w
  rw [lst_str, isX_no ha] at hix
  rw [hl] at hec
  have HEC := Lib.hid hec
  have HIX := Lib.hid hix
  have HA := Lib.hid ha
  have HX := Lib.hid (Bk.new w 30 t0c)
  have HB0 := Lib.hid ((Below.refl w.heap.size w).alloc (Nat.le_refl _) (.cells t0c 30))
  have HR0 := Lib.hid (hr.alloc hB (.cells t0c 30)); clear hr ha hec hix hl
  go_enter Tryz.func160, Tryz.ntmps160
  go_wp2_with fail
  refine (alascii_yes A n c l B _ HR0.out hn HA.out.let_).mono ?_
  rintro e w1 ⟨rfl, rfl⟩
  go_wp2_with fail
  refine (HEC.out _ HR0.out (by simp; omega)).mono ?_
  rintro e w1 ⟨rfl, hb1⟩
  have HX1 := Lib.hid (HX.out.below hb1 HX.out.lt)
  have HR1 := Lib.hid (HR0.out.below (hb1.mono (by simp; omega)))
  have HB1 := Lib.hid (HB0.out.trans (hb1.mono (by simp)))
  have hs1 : w.heap.size + 1 ≤ w1.heap.size := by have := hb1.size; simp at this; omega
  clear hb1 HX HR0 HB0
  go_wp2_with fail
  refine (HIX.out _).mono ?_
  rintro e w2 ⟨rfl, hb2⟩
  have HX2 := Lib.hid (HX1.out.below hb2 HX1.out.lt)
  have HR2 := Lib.hid (HR1.out.below (hb2.mono (by omega)))
  have HB2 := Lib.hid (HB1.out.trans (hb2.mono (by omega)))
  have hs2 := hb2.size
  clear hb2 HX1 HR1 HB1
  obtain ⟨x0, x1, x2, x3, x4, x5, x6, x7, x8, x9, x10, x11⟩ := box_cells HX2.out
  go_wp2_with fail
  clear x0 x1 x2 x3 x4 x5 x6 x7 x8 x9 x10 x11
  refine (vcheck_low A n c l B _ HR2.out (by omega) hn h0 HA.out).mono ?_
  rintro e w3 ⟨rfl, hb3⟩
  have HB3 := Lib.hid (HB2.out.trans (hb3.mono (by omega)))
  clear hb3
  go_wp2
  go_ret2
  exact ⟨rfl, HB3.out⟩
/-- A list without a full stop has one label. -/
theorem labels_one {l : List Int} (h : ∀ c ∈ l, c ≠ 46) : Sp.labels l = [l] := by
  have : ∀ (x d : List Int), (∀ c ∈ x, c ≠ 46) → x.foldl Sp.step ([], d) = ([], d ++ x) := by
    intro x
    induction x with
    | nil => intro d _; simp
    | cons a r ih =>
      intro d hx
      rw [List.foldl_cons]
      have : Sp.step ([], d) a = ([], d ++ [a]) := by unfold Sp.step; rw [if_neg (hx a (List.mem_cons_self ..))]
      rw [this, ih _ fun c hc => hx c (List.mem_cons_of_mem _ hc)]
      simp
  unfold Sp.labels Sp.st
  rw [this l [] h]
  simp
theorem Low.nodot {l : List Int} (h : Low l) : ∀ c ∈ l, c ≠ 46 := fun c hc => by have := h c hc; unfold Lo at this; omega
/-- The call returns one label. -/
def RetL (l : List Int) (vs : List Value) (w : World) (e : Ending) (w' : World) : Prop :=
  ∃ g c A c', e = .returned (.tuple (#[.slice (some ⟨g, 0, none⟩) 1 c] ++ vs.toArray)) ∧ Rd w' w'.heap.size 1 (some ⟨g, 0, none⟩) 1 [.slice A l.length c'] ∧ Rd w' w'.heap.size 1 A l.length (ints l) ∧ Below w.heap.size w w'
/-- A slice whose block is another one than that which turns. -/
theorem rd_far {w : World} {B size n : Nat} {A : Option Addr} {xs : List Value} {g : Nat} (h : Rd w B size A n xs) (hg : ∀ b off, A = some ⟨b, off, none⟩ → b ≠ g) (v : Value) : Rd (w.setCell ⟨g, 0, none⟩ v) B size A n xs :=
  ⟨h.1, fun hn => by
    obtain ⟨b, off, e, hb, hc⟩ := h.2 hn
    exact ⟨b, off, e, hb, fun j u hu => (World.cell?_setCell_other w ⟨g, 0, none⟩ ⟨b, off + j, none⟩ v (fun e2 => by injection e2 with e2; exact hg b off e e2.symm)).trans (hc j u hu)⟩⟩
/-- One cell, as a slice. -/
theorem rd_cell {w : World} {g : Nat} {v : Value} {B : Nat} (hg : g < B) (h : w.cell? ⟨g, 0, none⟩ = some v) : Rd w B 1 (some ⟨g, 0, none⟩) 1 [v] :=
  ⟨rfl, fun _ => ⟨g, 0, rfl, hg, fun j u hu => by
    cases j with
    | zero => simp at hu; subst hu; simpa using h
    | succ j => simp at hu⟩⟩
theorem set14 {w : World} {b g : Nat} {v : Value} (hne : g ≠ b) (h : w.cell? ⟨b, 0, none⟩ = some (.slice none 0 0) ∧ w.cell? ⟨b, 1, none⟩ = some (.slice none 0 0) ∧ w.cell? ⟨b, 2, none⟩ = some (.slice none 0 0) ∧ w.cell? ⟨b, 3, none⟩ = some (.slice none 0 0) ∧ w.cell? ⟨b, 4, none⟩ = some (.slice none 0 0) ∧ w.cell? ⟨b, 5, none⟩ = some (.slice none 0 0) ∧ w.cell? ⟨b, 6, none⟩ = some (.slice none 0 0) ∧ w.cell? ⟨b, 7, none⟩ = some (.slice none 0 0) ∧ w.cell? ⟨b, 8, none⟩ = some (.slice none 0 0) ∧ w.cell? ⟨b, 9, none⟩ = some (.slice none 0 0) ∧ w.cell? ⟨b, 10, none⟩ = some (.slice none 0 0) ∧ w.cell? ⟨b, 11, none⟩ = some (.slice none 0 0) ∧ w.cell? ⟨g, 0, none⟩ = some v ∧ w.frozen? ⟨g, 0, none⟩ = false) : (w.setCell ⟨g, 0, none⟩ v).cell? ⟨b, 0, none⟩ = some (.slice none 0 0) ∧ (w.setCell ⟨g, 0, none⟩ v).cell? ⟨b, 1, none⟩ = some (.slice none 0 0) ∧ (w.setCell ⟨g, 0, none⟩ v).cell? ⟨b, 2, none⟩ = some (.slice none 0 0) ∧ (w.setCell ⟨g, 0, none⟩ v).cell? ⟨b, 3, none⟩ = some (.slice none 0 0) ∧ (w.setCell ⟨g, 0, none⟩ v).cell? ⟨b, 4, none⟩ = some (.slice none 0 0) ∧ (w.setCell ⟨g, 0, none⟩ v).cell? ⟨b, 5, none⟩ = some (.slice none 0 0) ∧ (w.setCell ⟨g, 0, none⟩ v).cell? ⟨b, 6, none⟩ = some (.slice none 0 0) ∧ (w.setCell ⟨g, 0, none⟩ v).cell? ⟨b, 7, none⟩ = some (.slice none 0 0) ∧ (w.setCell ⟨g, 0, none⟩ v).cell? ⟨b, 8, none⟩ = some (.slice none 0 0) ∧ (w.setCell ⟨g, 0, none⟩ v).cell? ⟨b, 9, none⟩ = some (.slice none 0 0) ∧ (w.setCell ⟨g, 0, none⟩ v).cell? ⟨b, 10, none⟩ = some (.slice none 0 0) ∧ (w.setCell ⟨g, 0, none⟩ v).cell? ⟨b, 11, none⟩ = some (.slice none 0 0) ∧ (w.setCell ⟨g, 0, none⟩ v).cell? ⟨g, 0, none⟩ = some v ∧ (w.setCell ⟨g, 0, none⟩ v).frozen? ⟨g, 0, none⟩ = false := by
  obtain ⟨x0, x1, x2, x3, x4, x5, x6, x7, x8, x9, x10, x11, x12, x13⟩ := h
  have ho : ∀ i : Nat, (w.setCell ⟨g, 0, none⟩ v).cell? ⟨b, i, none⟩ = w.cell? ⟨b, i, none⟩ := fun i => World.cell?_setCell_other w ⟨g, 0, none⟩ ⟨b, i, none⟩ v (fun e => by injection e with e; exact hne e)
  refine ⟨(ho 0).trans x0, (ho 1).trans x1, (ho 2).trans x2, (ho 3).trans x3, (ho 4).trans x4, (ho 5).trans x5, (ho 6).trans x6, (ho 7).trans x7, (ho 8).trans x8, (ho 9).trans x9, (ho 10).trans x10, (ho 11).trans x11, ?_, ?_⟩
  · exact World.cell?_setCell_same w ⟨g, 0, none⟩ v x12
  · simpa using x13
set_option maxRecDepth 100000 in
set_option maxHeartbeats 4000000 in
theorem process_alp (s : ByteArray) (w : World) (h0 : 0 < s.size) (hn : s.size ≤ 63) (ha : Alp (nums (lst s))) :
    Calls Tryz.prog 136 #[t0, .string s] w (RetL ((nums (lst s)).map lowc) [.int .i64 0, .int .i64 0] w) := by
  have hse : s.toList.isEmpty = false := by rw [size_empty]; exact decide_eq_false (by omega)
  have has : Asc (lst s) := fun b hb => by
    have := ha.let_ (b.toNat : Int) (List.mem_map.2 ⟨b, hb, rfl⟩)
    exact this.2
  have hdc := fun w => decode_ascii s (by omega) has w
  have hl : (nums (lst s)).length = s.size := by rw [nums_length, lst_length]
  have HDC := Lib.hid hdc
  generalize nums (lst s) = l at *
  generalize s.size = n at *
  have HL := Lib.hid hl
  have hlm : (l.map lowc).length = n := by rw [List.length_map, hl]
  have HLM := Lib.hid hlm
  have HA := Lib.hid ha
  have HLO := Lib.hid ha.low
  have HLB := Lib.hid (labels_one ha.low.nodot)
  have HX := Lib.hid (Bk.new w 30 t0c)
  have HB0 := Lib.hid ((Below.refl w.heap.size w).alloc (Nat.le_refl _) (.cells t0c 30))
  clear ha hl has hdc hlm
  go_enter Tryz.func136, Tryz.ntmps136
  go_wp2_with fail
  refine (check_t0 _).mono ?_
  rintro e w1 ⟨rfl, hb1⟩
  have HX1 := Lib.hid (HX.out.below hb1 HX.out.lt)
  have HB1 := Lib.hid (HB0.out.trans (hb1.mono (by simp)))
  have hs1 : w.heap.size + 1 ≤ w1.heap.size := by have := hb1.size; simp at this; omega
  clear hb1 HX HB0
  go_wp2_with fail
  refine (HDC.out _).mono ?_
  rintro e w2 ⟨A2, c2, rfl, ho2, hb2⟩
  rw [HL.out] at ho2 ⊢
  have HX2 := Lib.hid (HX1.out.below hb2 HX1.out.lt)
  have HR2 := Lib.hid (Rd.of_own ho2)
  have HB2 := Lib.hid (HB1.out.trans (hb2.mono (by omega)))
  have hs2 := hb2.size
  clear hb2 ho2 HX1 HB1
  obtain ⟨x0, x1, x2, x3, x4, x5, x6, x7, x8, x9, x10, x11⟩ := box_cells HX2.out
  go_wp2_with fail
  clear x0 x1 x2 x3 x4 x5 x6 x7 x8 x9 x10 x11
  refine (map_alp A2 n c2 l _ _ HR2.out (Nat.le_refl _) (by omega) HA.out).mono ?_
  rintro e w3 ⟨A3, c3, rfl, ho3, hb3⟩
  rw [HLM.out] at ho3 ⊢
  have HX3 := Lib.hid (HX2.out.below hb3 HX2.out.lt)
  have HR3 := Lib.hid (Rd.of_own ho3)
  have HB3 := Lib.hid (HB2.out.trans (hb3.mono (by omega)))
  have hs3 := hb3.size
  clear hb3 ho3 HX2 HB2 HR2
  generalize l.map lowc = m at *
  obtain ⟨x0, x1, x2, x3, x4, x5, x6, x7, x8, x9, x10, x11⟩ := box_cells HX3.out
  go_wp2_with fail
  clear x0 x1 x2 x3 x4 x5 x6 x7 x8 x9 x10 x11
  refine (nfc_ascii A3 n c3 m _ _ HR3.out (Nat.le_refl _) (by omega) HLO.out.let_).mono ?_
  rintro e w4 ⟨A4, c4, rfl, ho4, hb4⟩
  have HR4 := Lib.hid (Rd.of_own ho4)
  have hlb := labels_any A4 c4 m w4 HR4.out (by rw [HLM.out]; omega)
  rw [HLM.out, HLB.out] at hlb
  rw [HLM.out] at ho4 ⊢
  have HLBL := Lib.hid hlb
  have HX4 := Lib.hid (HX3.out.below hb4 HX3.out.lt)
  have HB4 := Lib.hid (HB3.out.trans (hb4.mono (by omega)))
  have hs4 := hb4.size
  clear hb4 ho4 HX3 HB3 HR3 hlb
  go_wp2_with fail
  refine HLBL.out.mono ?_
  rintro e w5 ⟨A5, c5, vs, rfl, ho5, hv5, hb5⟩
  have HX5 := Lib.hid (HX4.out.below hb5 HX4.out.lt)
  have HB5 := Lib.hid (HB4.out.trans (hb5.mono (by omega)))
  have hs5 := hb5.size
  obtain ⟨g, rfl, hg1, hg2, hgc, hgcell, hgfr⟩ := own_at ho5 (by simp)
  obtain ⟨hvl, hvi⟩ := hv5
  obtain ⟨A6, c6, hv6, ho6, hq6⟩ := hvi 0 m rfl
  have hne : ∀ q, (Value.slice A6 m.length c6).ownBlock = some q → q ≠ g := by
    intro q hq e
    subst e
    obtain ⟨cs, hcs⟩ := own_heap ho6 q hq
    obtain ⟨cs', hcs'⟩ := own_heap ho5 q rfl
    rw [hcs] at hcs'
    injection hcs' with hcs'
    injection hcs' with _ hcs'
    exact absurd hcs' (by decide)
  have hc0 : w5.cell? ⟨g, 0, none⟩ = some (.slice A6 n c6) := by rw [← HLM.out]; exact hgcell 0 _ hv6
  have hf0 : w5.frozen? ⟨g, 0, none⟩ = false := hgfr 0
  have HR6 := Lib.hid (show Rd w5 w5.heap.size 1 A6 n (ints m) by rw [← HLM.out]; exact Rd.of_own ho6)
  have HNE := Lib.hid hne
  obtain ⟨g6, hg6, hg61, hg62, _, _, _⟩ := own_at ho6 (by rw [HLM.out]; exact h0)
  subst hg6
  have hne6 : g6 ≠ g := HNE.out g6 rfl
  have hg5 : g < w5.heap.size := by omega
  have e1 : [m].length = 1 := rfl
  rw [e1]
  have HS5 := Lib.hid (show w5.cell? ⟨w.heap.size, 0, none⟩ = some (.slice none 0 0) ∧ w5.cell? ⟨w.heap.size, 1, none⟩ = some (.slice none 0 0) ∧ w5.cell? ⟨w.heap.size, 2, none⟩ = some (.slice none 0 0) ∧ w5.cell? ⟨w.heap.size, 3, none⟩ = some (.slice none 0 0) ∧ w5.cell? ⟨w.heap.size, 4, none⟩ = some (.slice none 0 0) ∧ w5.cell? ⟨w.heap.size, 5, none⟩ = some (.slice none 0 0) ∧ w5.cell? ⟨w.heap.size, 6, none⟩ = some (.slice none 0 0) ∧ w5.cell? ⟨w.heap.size, 7, none⟩ = some (.slice none 0 0) ∧ w5.cell? ⟨w.heap.size, 8, none⟩ = some (.slice none 0 0) ∧ w5.cell? ⟨w.heap.size, 9, none⟩ = some (.slice none 0 0) ∧ w5.cell? ⟨w.heap.size, 10, none⟩ = some (.slice none 0 0) ∧ w5.cell? ⟨w.heap.size, 11, none⟩ = some (.slice none 0 0) ∧ w5.cell? ⟨g, 0, none⟩ = some (.slice (some ⟨g6, 0, none⟩) n c6) ∧ w5.frozen? ⟨g, 0, none⟩ = false from ⟨(HX5.out.cell 0).trans rfl, (HX5.out.cell 1).trans rfl, (HX5.out.cell 2).trans rfl, (HX5.out.cell 3).trans rfl, (HX5.out.cell 4).trans rfl, (HX5.out.cell 5).trans rfl, (HX5.out.cell 6).trans rfl, (HX5.out.cell 7).trans rfl, (HX5.out.cell 8).trans rfl, (HX5.out.cell 9).trans rfl, (HX5.out.cell 10).trans rfl, (HX5.out.cell 11).trans rfl, hc0, hf0⟩)
  clear hgcell hgfr hvi hv6 ho6 hq6 hb5 ho5 e1 hne
  have hxl := HX5.out.lt
  have hgx : g ≠ w.heap.size := by omega
  obtain ⟨x0, x1, x2, x3, x4, x5, x6, x7, x8, x9, x10, x11, x12, x13⟩ := HS5.out
  go_wp2_with fail
  refine wp_loop_rounds 2 ?_
  rw [rounds_succ]
  go_wp2_with fail
  go_region_held3 (fun w' => w'.cell? ⟨w.heap.size, 0, none⟩ = some (.slice none 0 0) ∧ w'.cell? ⟨w.heap.size, 1, none⟩ = some (.slice none 0 0) ∧ w'.cell? ⟨w.heap.size, 2, none⟩ = some (.slice none 0 0) ∧ w'.cell? ⟨w.heap.size, 3, none⟩ = some (.slice none 0 0) ∧ w'.cell? ⟨w.heap.size, 4, none⟩ = some (.slice none 0 0) ∧ w'.cell? ⟨w.heap.size, 5, none⟩ = some (.slice none 0 0) ∧ w'.cell? ⟨w.heap.size, 6, none⟩ = some (.slice none 0 0) ∧ w'.cell? ⟨w.heap.size, 7, none⟩ = some (.slice none 0 0) ∧ w'.cell? ⟨w.heap.size, 8, none⟩ = some (.slice none 0 0) ∧ w'.cell? ⟨w.heap.size, 9, none⟩ = some (.slice none 0 0) ∧ w'.cell? ⟨w.heap.size, 10, none⟩ = some (.slice none 0 0) ∧ w'.cell? ⟨w.heap.size, 11, none⟩ = some (.slice none 0 0) ∧ w'.cell? ⟨g, 0, none⟩ = some (.slice (some ⟨g6, 0, none⟩) n c6) ∧ w'.frozen? ⟨g, 0, none⟩ = false)
    (first
      | exact HS7.out
      | exact HS6.out
      | go_keep
      | fail)
    (first
      | (go_at_call 160; refine (label_low (some ⟨g6, 0, none⟩) n c6 m w5.heap.size _ (HR6.out.drew) (Nat.le_refl _) (by omega) h0 HLO.out).mono ?_; rintro e w6 ⟨rfl, hb6⟩; have HS6 := Lib.hid (show w6.cell? ⟨w.heap.size, 0, none⟩ = some (.slice none 0 0) ∧ w6.cell? ⟨w.heap.size, 1, none⟩ = some (.slice none 0 0) ∧ w6.cell? ⟨w.heap.size, 2, none⟩ = some (.slice none 0 0) ∧ w6.cell? ⟨w.heap.size, 3, none⟩ = some (.slice none 0 0) ∧ w6.cell? ⟨w.heap.size, 4, none⟩ = some (.slice none 0 0) ∧ w6.cell? ⟨w.heap.size, 5, none⟩ = some (.slice none 0 0) ∧ w6.cell? ⟨w.heap.size, 6, none⟩ = some (.slice none 0 0) ∧ w6.cell? ⟨w.heap.size, 7, none⟩ = some (.slice none 0 0) ∧ w6.cell? ⟨w.heap.size, 8, none⟩ = some (.slice none 0 0) ∧ w6.cell? ⟨w.heap.size, 9, none⟩ = some (.slice none 0 0) ∧ w6.cell? ⟨w.heap.size, 10, none⟩ = some (.slice none 0 0) ∧ w6.cell? ⟨w.heap.size, 11, none⟩ = some (.slice none 0 0) ∧ w6.cell? ⟨g, 0, none⟩ = some (.slice (some ⟨g6, 0, none⟩) n c6) ∧ w6.frozen? ⟨g, 0, none⟩ = false from ⟨(hb6.cell (p := ⟨w.heap.size, 0, none⟩) hxl).trans x0, (hb6.cell (p := ⟨w.heap.size, 1, none⟩) hxl).trans x1, (hb6.cell (p := ⟨w.heap.size, 2, none⟩) hxl).trans x2, (hb6.cell (p := ⟨w.heap.size, 3, none⟩) hxl).trans x3, (hb6.cell (p := ⟨w.heap.size, 4, none⟩) hxl).trans x4, (hb6.cell (p := ⟨w.heap.size, 5, none⟩) hxl).trans x5, (hb6.cell (p := ⟨w.heap.size, 6, none⟩) hxl).trans x6, (hb6.cell (p := ⟨w.heap.size, 7, none⟩) hxl).trans x7, (hb6.cell (p := ⟨w.heap.size, 8, none⟩) hxl).trans x8, (hb6.cell (p := ⟨w.heap.size, 9, none⟩) hxl).trans x9, (hb6.cell (p := ⟨w.heap.size, 10, none⟩) hxl).trans x10, (hb6.cell (p := ⟨w.heap.size, 11, none⟩) hxl).trans x11, (hb6.cell (p := ⟨g, 0, none⟩) hg5).trans x12, (hb6.frozen (p := ⟨g, 0, none⟩) hg5).trans x13⟩); have HS7 := Lib.hid (set14 hgx HS6.out))
      | fail)
  have hs6 := hb6.size
  have hs6' : w5.heap.size ≤ w6.heap.size := hs6
  have HB6 := Lib.hid (HB5.out.drew.trans (hb6.mono (by show w.heap.size ≤ w5.heap.size; omega)))
  have HX6 := Lib.hid ((HX5.out.drew).below hb6 HX5.out.lt)
  have HI6 := Lib.hid ((HR6.out.drew).below hb6)
  have HX7 := Lib.hid (HX6.out.far (p := ⟨g, 0, none⟩) (by show w.heap.size ≠ g; omega) (.slice (some ⟨g6, 0, none⟩) n c6))
  have HB7 := Lib.hid (HB6.out.setCell (p := ⟨g, 0, none⟩) (by show w.heap.size ≤ g; omega) (.slice (some ⟨g6, 0, none⟩) n c6))
  have HI7 := Lib.hid (rd_far (g := g) HI6.out (fun b off e => by injection e with e; injection e with e; omega) (.slice (some ⟨g6, 0, none⟩) n c6))
  have HC7 := Lib.hid HS7.out.2.2.2.2.2.2.2.2.2.2.2.2.1
  clear x0 x1 x2 x3 x4 x5 x6 x7 x8 x9 x10 x11 x12 x13 hb6 hs6
  generalize hw7 : w6.setCell ⟨g, 0, none⟩ (.slice (some ⟨g6, 0, none⟩) n c6) = w7 at *
  have hs7 : w7.heap.size = w6.heap.size := by rw [← hw7]; simp [World.setCell]
  have hs7' : w5.heap.size ≤ w7.heap.size := by omega
  clear hw7 hs7
  go_wp2_with fail
  rw [rounds_succ]
  obtain ⟨x0, x1, x2, x3, x4, x5, x6, x7, x8, x9, x10, x11⟩ := box_cells HX7.out
  go_wp2_with fail
  clear x0 x1 x2 x3 x4 x5 x6 x7 x8 x9 x10 x11
  have HR7 := Lib.hid (rd_cell (show g < w7.heap.size by omega) HC7.out)
  refine (domain_low _ _ n _ c6 m w7.heap.size w7 HR7.out (HI7.out.more (by omega)) (Nat.le_refl _) (by omega) h0 HLO.out).mono ?_
  rintro e w8 ⟨rfl, hb8⟩
  have HR8 := Lib.hid ((HR7.out.below hb8).more hb8.size)
  have HI8 := Lib.hid ((HI7.out.more (show _ ≤ w7.heap.size by omega)).below hb8 |>.more hb8.size)
  have HB8 := Lib.hid (HB7.out.trans (hb8.mono (by omega)))
  clear hb8
  go_wp2
  go_ret3
  exact ⟨g, _, some ⟨g6, 0, none⟩, c6, rfl, by rw [HLM.out]; exact HR8.out, by rw [HLM.out]; exact HI8.out, HB8.out⟩
end Go.Proofs.YtddieenjdaociaaGreatDoor
