/- mapping.Map, alabel.ASCII and Encode at the tables without rows, on letters. -/
import Derived.Test.YtddieenjdaociaaGreatDoorM08
namespace Go.Proofs.YtddieenjdaociaaGreatDoor
open Go Go.RowKit Go.Shelf
set_option linter.unusedVariables false

set_option maxRecDepth 100000 in
set_option maxHeartbeats 1000000 in
theorem isnfc_ascii (A : Option Addr) (n c : Nat) (l : List Int) (B : Nat) (w : World) (hr : Rd w B 1 A n (ints l)) (hB : B ≤ w.heap.size) (hn : n ≤ 4096) (ha : Let l) :
    Calls Tryz.prog 205 #[t0, .slice A n c] w fun e w' => e = .returned (.bool true) ∧ Below w.heap.size w w' := by
  have hl : l.length = n := by have := hr.1; rw [ints_length] at this; omega
  have HL := Lib.hid hl
  have HR := Lib.hid hr; clear hr hl
  have HA := Lib.hid ha; clear ha
  have HR0 := Lib.hid (HR.out.alloc hB (.cells t0c 30))
  have HB0 := Lib.hid ((Below.refl w.heap.size w).alloc (Nat.le_refl _) (.cells t0c 30))
  go_enter Tryz.func205, Tryz.ntmps205
  go_wp2_with fail
  refine (nfc_ascii A n c l B _ HR0.out (by simp; omega) hn HA.out).mono ?_
  rintro e w1 ⟨A1, c1, rfl, ho1, hb1⟩
  rw [HL.out] at ho1 ⊢
  have HO1 := Lib.hid (Rd.of_own ho1)
  have HR1 := Lib.hid ((HR0.out.below (hb1.mono (by simp; omega))).more (show B ≤ w1.heap.size by have := hb1.size; simp at this; omega))
  have HB1 := Lib.hid (HB0.out.trans (hb1.mono (by simp)))
  clear hb1 ho1
  go_wp2_with fail
  refine (equal_same A1 A n c1 c l _ _ HO1.out HR1.out hn).mono ?_
  rintro e w2 ⟨rfl, m, rfl⟩
  go_wp2_with fail
  go_ret
  exact ⟨rfl, below_drewN HB1.out m⟩
/-- Letters; the small form of a letter. -/
def Alp (l : List Int) : Prop := ∀ c ∈ l, Lo c ∨ Up c
def Low (l : List Int) : Prop := ∀ c ∈ l, Lo c
def lowc (c : Int) : Int := if 65 ≤ c ∧ c ≤ 90 then c + 32 else c
theorem Low.alp {l : List Int} (h : Low l) : Alp l := fun c hc => .inl (h c hc)
theorem Alp.let_ {l : List Int} (h : Alp l) : Let l := fun c hc => by rcases h c hc with ⟨h0, h1⟩ | ⟨h0, h1⟩ <;> omega
theorem Low.let_ {l : List Int} (h : Low l) : Let l := h.alp.let_
theorem Alp.low {l : List Int} (h : Alp l) : Low (l.map lowc) := by
  intro c hc
  obtain ⟨d, hd, rfl⟩ := List.mem_map.1 hc
  unfold lowc Lo
  rcases h d hd with ⟨h0, h1⟩ | ⟨h0, h1⟩
  · rw [if_neg (by omega)]; exact ⟨h0, h1⟩
  · rw [if_pos ⟨h0, h1⟩]; omega
theorem Low.map_ {l : List Int} (h : Low l) : l.map lowc = l := by
  have : ∀ c ∈ l, lowc c = c := fun c hc => by
    have := h c hc
    unfold lowc; unfold Lo at this
    rw [if_neg (by omega)]
  rw [List.map_congr_left this, List.map_id']
set_option maxRecDepth 100000 in
set_option maxHeartbeats 4000000 in
theorem map_alp (A : Option Addr) (n c : Nat) (l : List Int) (B : Nat) (w : World) (hr : Rd w B 1 A n (ints l)) (hB : B ≤ w.heap.size) (hn : n ≤ 4096) (ha : Alp l) :
    Calls Tryz.prog 157 #[t0, .slice A n c] w (RetIs 3 (l.map lowc) [.int .i64 0, .int .i64 0] w) := by
  have hl : l.length = n := by have := hr.1; rw [ints_length] at this; omega
  have HL := Lib.hid hl
  have HA := Lib.hid ha
  have HX := Lib.hid (Bk.new w 30 t0c)
  have HB0 := Lib.hid ((Below.refl w.heap.size w).alloc (Nat.le_refl _) (.cells t0c 30))
  have HR0 := Lib.hid (hr.alloc hB (.cells t0c 30)); clear hr hl ha
  go_enter Tryz.func157, Tryz.ntmps157
  go_wp2_with fail
  refine (order_ascii A n c l B _ HR0.out (by simp; omega) hn HA.out.let_).mono ?_
  rintro e w1 ⟨A1, c1, rfl, _, hb1⟩
  have HX1 := Lib.hid (HX.out.below hb1 HX.out.lt)
  have HR1 := Lib.hid (HR0.out.below (hb1.mono (by simp; omega)))
  have HB1 := Lib.hid (HB0.out.trans (hb1.mono (by simp)))
  have hs1 : w.heap.size + 1 ≤ w1.heap.size := by have := hb1.size; simp at this; omega
  clear hb1 HX HR0 HB0
  go_wp2_with fail
  go_loopw [9, 23] (fun vo vi wr => ∃ (k : Nat) (A : Option Addr) (c : Nat), k ≤ n ∧ vi = .int .i64 k ∧ vo = .slice A k c ∧ wr.ownsRow w1.heap.size 3 1 (.slice A k c) k (ints ((l.map lowc).take k)) ∧ Below w1.heap.size w1 wr) (fun _ vi _ => n - (intOf vi).toNat)
  case atStart => exact ⟨0, none, 0, by omega, rfl, rfl, World.ownsRow_nil _ _ _ _, Below.refl _ _⟩
  case round =>
    obtain ⟨k, A2, c2, hk, rfl, rfl, ho, hb⟩ := hrel
    have HO := Lib.hid ho; have HB := Lib.hid hb
    have hsw := hb.size
    have HX2 := Lib.hid (HX1.out.below hb HX1.out.lt)
    clear ho hb
    by_cases hlt : k < n
    · obtain ⟨b, off, cc, rfl, hb, hat, hcell⟩ := ints_cell (HR1.out.below (HB.out.mono (by omega))) hlt
      have hcc := HA.out cc (List.mem_of_getElem? hat)
      have hmp : (l.map lowc).take (k + 1) = (l.map lowc).take k ++ [lowc cc] := by
        obtain ⟨q1, q2⟩ := List.getElem?_eq_some_iff.1 hat
        rw [List.take_succ_eq_append_getElem (by rw [List.length_map]; exact q1), List.getElem_map, q2]
      clear hat
      obtain ⟨x0, x1, x2, x3, x4, x5, x6, x7, x8, x9, x10, x11⟩ := box_cells HX2.out
      rcases hcc with ⟨g0, g1⟩ | ⟨g0, g1⟩
      · have e1 : lowc cc = cc := by unfold lowc; rw [if_neg (by omega)]
        rw [e1] at hmp
        have HMP := Lib.hid hmp
        clear hmp e1
        go_wp2_with fail
        clear x0 x1 x2 x3 x4 x5 x6 x7 x8 x9 x10 x11 hcell
        refine (status_low cc g0 g1 _).mono ?_
        rintro e w3 ⟨rfl, hb3⟩
        have HO3 := Lib.hid (own_past HO.out hb3)
        have HB3 := Lib.hid (HB.out.trans (hb3.mono (by omega)))
        have hs3 := hb3.size
        clear hb3
        go_wp2_with (at_builtin; refine app_int (by rfl) _ _ rfl (base := w1.heap.size) rfl (HO3.out.alloc _) rfl (rd_one_int (z := w3.heap.size) rfl cc) (by omega) (by simp <;> omega) ?_)
        intro A4 c4 w4 ho4 hg4 hc4
        have HB4 := Lib.hid (own_below HO3.out HB3.out _ hg4 (by omega))
        have HO4 := Lib.hid (show w4.ownsRow w1.heap.size 3 1 (.slice A4 (k + 1) c4) (k + 1) (ints ((l.map lowc).take (k + 1))) by rw [HMP.out]; exact ho4)
        clear ho4 hg4 hc4
        go_wp2
        go_roundw
        case rel => exact ⟨k + 1, A4, c4, by omega, by go_num, rfl, HO4.out, HB4.out⟩
        case measure => simp [intOf]; omega
      · have e1 : lowc cc = cc + 32 := by unfold lowc; rw [if_pos ⟨g0, g1⟩]
        rw [e1] at hmp
        have HMP := Lib.hid hmp
        clear hmp e1
        go_wp2_with fail
        clear x0 x1 x2 x3 x4 x5 x6 x7 x8 x9 x10 x11 hcell
        refine (status_up cc g0 g1 _).mono ?_
        rintro e w3 ⟨rfl, hb3⟩
        have HO3 := Lib.hid (own_past HO.out hb3)
        have HB3 := Lib.hid (HB.out.trans (hb3.mono (by omega)))
        have HX3 := Lib.hid (HX2.out.below hb3 HX2.out.lt)
        have hs3 := hb3.size
        clear hb3
        obtain ⟨x0, x1, x2, x3, x4, x5, x6, x7, x8, x9, x10, x11⟩ := box_cells HX3.out
        go_wp2_with fail
        clear x0 x1 x2 x3 x4 x5 x6 x7 x8 x9 x10 x11
        refine (maps_up cc g0 g1 _).mono ?_
        rintro e w6 ⟨A6, c6, rfl, ho6, hb6⟩
        have HO6 := Lib.hid (own_past HO3.out hb6)
        have HR6 := Lib.hid (Rd.of_own ho6)
        have HB6 := Lib.hid (HB3.out.trans (hb6.mono (by omega)))
        have hs6 := hb6.size
        clear hb6 ho6
        go_wp2_with (at_builtin; refine app_int (by rfl) _ _ rfl (base := w1.heap.size) rfl HO6.out rfl HR6.out (by simp; omega) (by omega) ?_)
        intro A4 c4 w4 ho4 hg4 hc4
        have HB4 := Lib.hid ((HB6.out.grown hg4 (by omega) (fun q h => (HO6.out.lt q h).1)))
        have HO4 := Lib.hid (show w4.ownsRow w1.heap.size 3 1 (.slice A4 (k + 1) c4) (k + 1) (ints ((l.map lowc).take (k + 1))) by rw [HMP.out]; exact ho4)
        clear ho4 hg4 hc4
        go_wp2
        go_roundw
        case rel => exact ⟨k + 1, A4, c4, by omega, by go_num, rfl, HO4.out, HB4.out⟩
        case measure => simp [intOf]; omega
    · obtain rfl : k = n := by omega
      have ho := HO.out
      rw [List.take_of_length_le (by rw [List.length_map, HL.out]; omega)] at ho
      have HO := Lib.hid ho
      clear ho
      have HLM := Lib.hid (show (l.map lowc).length = k by rw [List.length_map, HL.out])
      go_wp2
      go_ret3
      exact ⟨A2, c2, by rw [HLM.out]; rfl, by rw [HLM.out]; exact own_low HO.out (by omega), HB1.out.trans (HB.out.mono (by omega))⟩
set_option maxRecDepth 100000 in
set_option maxHeartbeats 1000000 in
theorem alascii_yes (A : Option Addr) (n c : Nat) (l : List Int) (B : Nat) (w : World) (hr : Rd w B 1 A n (ints l)) (hn : n ≤ 4096) (ha : Let l) :
    Calls Tryz.prog 182 #[.slice A n c] w fun e w' => e = .returned (.bool true) ∧ w' = w := by
  have HR := Lib.hid hr; clear hr
  have HA := Lib.hid ha; clear ha
  go_enter Tryz.func182, Tryz.ntmps182
  go_wp2_with fail
  go_loop [7] (fun i => ∃ k : Nat, k ≤ n ∧ i = .int .i64 k) (fun i => n - (intOf i).toNat)
  case atStart => exact ⟨0, by omega, rfl⟩
  case round =>
    obtain ⟨k, hk, rfl⟩ := hrel
    by_cases hlt : k < n
    · obtain ⟨b, off, cc, rfl, hb, hat, hcell⟩ := ints_cell HR.out hlt
      obtain ⟨g0, g1⟩ := HA.out cc (List.mem_of_getElem? hat)
      clear hat
      go_wp2
      go_round
      case rel => exact ⟨k + 1, by omega, by go_num⟩
      case measure => simp [intOf]; omega
    · go_wp2
      go_ret
      exact ⟨rfl, rfl⟩
set_option maxRecDepth 100000 in
set_option maxHeartbeats 1000000 in
theorem alenc_low (A : Option Addr) (n c : Nat) (l : List Int) (B : Nat) (w : World) (hr : Rd w B 1 A n (ints l)) (hB : B ≤ w.heap.size) (h0 : 0 < n) (hn : n ≤ 63) (ha : Let l) :
    Calls Tryz.prog 174 #[.slice A n c] w fun e w' => e = .returned (.tuple #[.string (str (l.map byt)), .int .i64 0]) ∧ Below w.heap.size w w' := by
  have hl : l.length = n := by have := hr.1; rw [ints_length] at this; omega
  have HL := Lib.hid hl
  have HR := Lib.hid hr; clear hr hl
  have HA := Lib.hid ha; clear ha
  go_enter Tryz.func174, Tryz.ntmps174
  go_wp2_with fail
  refine (alascii_yes A n c l B _ HR.out (by omega) HA.out).mono ?_
  rintro e w1 ⟨rfl, rfl⟩
  go_wp2_with fail
  go_loopw [4, 16] (fun vo vi wr => ∃ (k : Nat) (A : Option Addr) (c : Nat), k ≤ n ∧ vi = .int .i64 k ∧ vo = .slice A k c ∧ wr.ownsRow w1.heap.size 5 1 (.slice A k c) k (bys ((l.map byt).take k)) ∧ Below w1.heap.size w1 wr) (fun _ vi _ => n - (intOf vi).toNat)
  case atStart => exact ⟨0, none, 0, by omega, rfl, rfl, World.ownsRow_nil _ _ _ _, Below.refl _ _⟩
  case round =>
    obtain ⟨k, A2, c2, hk, rfl, rfl, ho, hb⟩ := hrel
    have HO := Lib.hid ho; have HB := Lib.hid hb
    have hsw := hb.size
    clear ho hb
    by_cases hlt : k < n
    · obtain ⟨b, off, cc, rfl, hb, hat, hcell⟩ := ints_cell (HR.out.below (HB.out.mono hB)) hlt
      obtain ⟨g0, g1⟩ := HA.out cc (List.mem_of_getElem? hat)
      have HBN := Lib.hid (byt_num cc g0 g1)
      have hmp : (l.map byt).take (k + 1) = (l.map byt).take k ++ [byt cc] := by
        obtain ⟨q1, q2⟩ := List.getElem?_eq_some_iff.1 hat
        rw [List.take_succ_eq_append_getElem (by rw [List.length_map]; exact q1), List.getElem_map, q2]
      have HMP := Lib.hid hmp
      clear hmp hat
      go_wp2_with (at_builtin; refine app_byte (by rfl) _ _ rfl (base := w1.heap.size) rfl (HO.out.alloc _) rfl (rd_one_u8x (z := wr.heap.size) rfl HBN.out) (by omega) (by simp <;> omega) ?_)
      intro A4 c4 w4 ho4 hg4 hc4
      have HP := Lib.hid (own_below HO.out HB.out _ hg4 hsw)
      have HO4 := Lib.hid (show w4.ownsRow w1.heap.size 5 1 (.slice A4 (k + 1) c4) (k + 1) (bys ((l.map byt).take (k + 1))) by rw [HMP.out]; exact ho4)
      clear ho4 hg4 hc4
      go_wp2
      go_roundw
      case rel => exact ⟨k + 1, A4, c4, by omega, by go_num, rfl, HO4.out, HP.out⟩
      case measure => simp [intOf]; omega
    · obtain rfl : k = n := by omega
      have ho := HO.out
      rw [List.take_of_length_le (by rw [List.length_map, HL.out]; omega)] at ho
      have hcv := conv_row ho
      clear ho
      go_wp2
      go_ret2
      exact ⟨rfl, HB.out⟩
end Go.Proofs.YtddieenjdaociaaGreatDoor
