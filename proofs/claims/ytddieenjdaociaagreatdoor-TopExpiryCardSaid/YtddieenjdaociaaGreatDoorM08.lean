/- compose.NFC, IsNFC, mapping.Map at the tables without rows, on letters. The walks of Lower, Is, ASCII of labels, ours and the reference's. -/
import Derived.Test.YtddieenjdaociaaGreatDoorM07
namespace Go.Proofs.YtddieenjdaociaaGreatDoor
open Go Go.RowKit Go.Shelf
set_option linter.unusedVariables false

set_option maxHeartbeats 1000000 in
theorem nfc_ascii (A : Option Addr) (n c : Nat) (l : List Int) (B : Nat) (w : World) (hr : Rd w B 1 A n (ints l)) (hB : B ≤ w.heap.size) (hn : n ≤ 4096) (ha : Let l) :
    Calls Tryz.prog 158 #[t0, .slice A n c] w (RetIs 3 l [.int .i64 0] w) := by
  have hl : l.length = n := by have := hr.1; rw [ints_length] at this; omega
  have HL := Lib.hid hl
  have HR := Lib.hid hr; clear hr hl
  have HA := Lib.hid ha; clear ha
  have HX := Lib.hid (Bk.new w 30 t0c)
  have HR0 := Lib.hid (HR.out.alloc hB (.cells t0c 30))
  have HB0 := Lib.hid ((Below.refl w.heap.size w).alloc (Nat.le_refl _) (.cells t0c 30))
  go_enter Tryz.func158, Tryz.ntmps158
  go_wp2_with fail
  refine (nfd_ascii A n c l B _ HR0.out (by simp; omega) hn HA.out).mono ?_
  rintro e w1 ⟨A1, c1, rfl, ho1, hb1⟩
  rw [HL.out] at ho1 ⊢
  have HX1 := Lib.hid (HX.out.below hb1 HX.out.lt)
  have HO1 := Lib.hid ho1
  have HB1 := Lib.hid (HB0.out.trans (hb1.mono (by simp)))
  have hs1 := hb1.size
  clear hb1 ho1
  obtain ⟨x0, x1, x2, x3, x4, x5, x6, x7, x8, x9, x10, x11⟩ := box_cells HX1.out
  go_wp2_with fail
  clear x0 x1 x2 x3 x4 x5 x6 x7 x8 x9 x10 x11
  refine (cform_ascii A1 n c1 l _ _ (Rd.of_own HO1.out) (Nat.le_refl _) hn HA.out).mono ?_
  rintro e w2 ⟨A2, c2, rfl, ho2, hb2⟩
  rw [HL.out] at ho2 ⊢
  have HO2 := Lib.hid ho2; have HB2 := Lib.hid (HB1.out.trans (hb2.mono (by simp at hs1; omega)))
  clear ho2 hb2
  go_wp2
  go_ret2
  exact ⟨A2, c2, by rw [HL.out]; rfl, by rw [HL.out]; exact own_low HO2.out (by simp at hs1; omega), HB2.out⟩
set_option maxHeartbeats 1000000 in
theorem equal_same (A A' : Option Addr) (n c c' : Nat) (l : List Int) (B : Nat) (w : World) (hx : Rd w B 1 A n (ints l)) (hy : Rd w B 1 A' n (ints l)) (hn : n ≤ 4096) :
    Calls Tryz.prog 226 #[.slice A n c, .slice A' n c'] w fun e w' => e = .returned (.bool true) ∧ ∃ m, w' = w.drewN m := by
  have HX := Lib.hid hx; have HY := Lib.hid hy; clear hx hy
  go_enter Tryz.func226, Tryz.ntmps226
  go_wp2_with fail
  go_loopw [13] (fun vi wr => ∃ k m : Nat, k ≤ n ∧ vi = .int .i64 k ∧ wr = w.drewN m) (fun vi _ => n - (intOf vi).toNat)
  case atStart => exact ⟨0, 0, by omega, rfl, rfl⟩
  case round =>
    obtain ⟨k, m, hk, rfl, rfl⟩ := hrel
    by_cases hlt : k < n
    · obtain ⟨b, off, cc, rfl, hb, hat, hcell⟩ := ints_cell HX.out hlt
      obtain ⟨b', off', cc', rfl, hb', hat', hcell'⟩ := ints_cell HY.out hlt
      rw [hat] at hat'
      injection hat' with hat'
      subst hat'
      clear hat
      have hne : (cc != cc) = false := by simp
      go_wp2_with fail
      go_quiet (fail)
      go_wp2_with fail
      go_roundw
      case rel => exact ⟨k + 1, _, by omega, by go_num, rfl⟩
      case measure => simp [intOf]; omega
    · go_wp2
      go_ret
      exact ⟨rfl, m, rfl⟩
end Go.Proofs.YtddieenjdaociaaGreatDoor
namespace Go.Proofs.YtddieenjdaociaaGreatDoor
open Go Go.RowKit
set_option linter.unusedVariables false

namespace Al
def lb (b : UInt8) : UInt8 := if 65 ≤ b.toNat ∧ b.toNat ≤ 90 then b + 32 else b
def low (L : List UInt8) : List UInt8 := L.map lb
def isX (L : List UInt8) : Bool := decide (4 ≤ L.length) && decide (low (L.take 4) = [120, 110, 45, 45])
def ascii (l : List Int) : Bool := l.all (fun c => decide (0 ≤ c ∧ c ≤ 127))
theorem lb_lb (b : UInt8) : lb (lb b) = lb b := by
  have h : ∀ n : Fin 256, lb (lb (UInt8.ofNat n.1)) = lb (UInt8.ofNat n.1) := by decide +kernel
  have := h ⟨b.toNat, b.toNat_lt⟩
  simpa using this
theorem lb_big {b : UInt8} (h : 65 ≤ b.toNat ∧ b.toNat ≤ 90) : ((lb b).toNat : Int) = (b.toNat : Int) + 32 := by
  have H : ∀ n : Fin 256, 65 ≤ n.1 ∧ n.1 ≤ 90 → ((lb (UInt8.ofNat n.1)).toNat : Int) = (n.1 : Int) + 32 := by decide +kernel
  have := H ⟨b.toNat, b.toNat_lt⟩ h
  simpa using this
theorem lb_else {b : UInt8} (h : ¬ (65 ≤ b.toNat ∧ b.toNat ≤ 90)) : lb b = b := by unfold lb; rw [if_neg h]
theorem low_len (L : List UInt8) : (low L).length = L.length := by simp [low]
theorem low_low (L : List UInt8) : low (low L) = low L := by simp [low, lb_lb]
theorem low_take (L : List UInt8) (n : Nat) : low (L.take n) = (low L).take n := by simp [low, List.map_take]
theorem isX_low (L : List UInt8) : isX (low L) = isX L := by unfold isX; rw [low_len, low_take, low_low, ← low_take]
end Al
/-- The block of '[]byte(s)' while it is made small: the first k are small. -/
def LowUp (w : World) (g : Nat) (L : List UInt8) (k : Nat) (wr : World) : Prop :=
  (∀ j b, L[j]? = some b → wr.cell? ⟨g, j, none⟩ = some (.int .u8 ((if j < k then Al.lb b else b).toNat : Int)) ∧ wr.frozen? ⟨g, j, none⟩ = false) ∧ Below w.heap.size w wr
theorem LowUp.put {w wr : World} {g : Nat} {L : List UInt8} {k : Nat} {b : UInt8} {v : Int} (h : LowUp w g L k wr) (hb : L[k]? = some b) (hv : v = ((Al.lb b).toNat : Int)) (hg : w.heap.size ≤ g) : LowUp w g L (k + 1) (wr.setCell ⟨g, k, none⟩ (.int .u8 v)) := by
  refine ⟨fun j c hj => ?_, h.2.setCell (p := ⟨g, k, none⟩) hg _⟩
  obtain ⟨h1, h2⟩ := h.1 j c hj
  refine ⟨?_, by rw [World.frozen?_setCell]; exact h2⟩
  by_cases e : j = k
  · subst e
    rw [hb] at hj; injection hj with hj; subst hj
    rw [World.cell?_setCell_same _ _ _ h1, if_pos (by omega), hv]
  · rw [World.cell?_setCell_other _ _ _ _ (by intro e2; injection e2 with _ e3 _; exact e e3.symm), h1]
    by_cases h3 : j < k
    · rw [if_pos h3, if_pos (by omega)]
    · rw [if_neg h3, if_neg (by omega)]
theorem LowUp.skip {w wr : World} {g : Nat} {L : List UInt8} {k : Nat} {b : UInt8} (h : LowUp w g L k wr) (hb : L[k]? = some b) (hv : Al.lb b = b) : LowUp w g L (k + 1) wr := by
  refine ⟨fun j c hj => ?_, h.2⟩
  obtain ⟨h1, h2⟩ := h.1 j c hj
  refine ⟨?_, h2⟩
  by_cases e : j = k
  · subst e
    rw [hb] at hj; injection hj with hj; subst hj
    rw [h1, if_neg (by omega), if_pos (by omega), hv]
  · rw [h1]
    by_cases h3 : j < k
    · rw [if_pos h3, if_pos (by omega)]
    · rw [if_neg h3, if_neg (by omega)]
theorem LowUp.conv {w wr : World} {g : Nat} {L : List UInt8} {n c : Nat} (h : LowUp w g L n wr) (hn : L.length = n) :
    (convert 129 9 (.slice (some ⟨g, 0, none⟩) n c)).run Tryz.prog wr = .ok (.string (str (Al.low L))) wr := by
  subst hn
  have := run_convert_bytes_back (P := Tryz.prog) wr 129 9 5 ⟨g, 0, none⟩ c (Al.low L) Tryz.underlying129 Tryz.underlying5 Tryz.underlying9 (fun j hj => by
    rw [Al.low_len] at hj
    rw [addp, Nat.zero_add, (h.1 j L[j] (List.getElem?_eq_getElem hj)).1, if_pos hj]
    simp [Al.low])
  rw [Al.low_len] at this
  exact this
set_option maxHeartbeats 4000000 in
theorem lower_any (s : ByteArray) (hs : s.size ≤ maxLen) (w : World) : Calls Tryz.prog 203 #[.string s] w fun e w' => e = .returned (.string (str (Al.low (lst s)))) ∧ Below w.heap.size w w' := by
  unfold maxLen at hs
  obtain ⟨cc, w2, hcv, hbl2, hsz2, hcc, hcells, hfz⟩ := conv_bytes s w
  have hup : LowUp w w.heap.size (lst s) 0 w2 := ⟨fun j b hj => ⟨by rw [if_neg (by omega)]; exact hcells j b hj, hfz j (by have := (List.getElem?_eq_some_iff.1 hj).1; rw [lst_length] at this; exact this)⟩, hbl2⟩
  have HUP := Lib.hid hup
  have hll := lst_length s
  have HLL := Lib.hid hll
  clear hbl2 hcells hfz hup hsz2 hll
  go_enter Tryz.func203, Tryz.ntmps203
  go_wp2_with fail
  clear hcv
  go_loopw [10] (fun i wr => ∃ k : Nat, k ≤ s.size ∧ i = .int .i64 k ∧ LowUp w w.heap.size (lst s) k wr) (fun i _ => s.size - (intOf i).toNat)
  case atStart => exact ⟨0, by omega, rfl, HUP.out⟩
  case round =>
    obtain ⟨k, hk, rfl, hu⟩ := hrel
    have HU := Lib.hid hu; clear hu
    by_cases hlt : k < s.size
    · have hat := lst_at s k hlt
      generalize s[k] = b at *
      obtain ⟨hc, hf⟩ := HU.out.1 k b hat
      rw [if_neg (by omega)] at hc
      have HAT := Lib.hid hat; clear hat
      have hki : (k : Int) < (s.size : Int) := by omega
      have hb256 := b.toNat_lt
      by_cases hbig : 65 ≤ b.toNat ∧ b.toNat ≤ 90
      · have hl := Al.lb_big hbig
        have HLB := Lib.hid hl; clear hl
        obtain ⟨g1, g2⟩ := hbig
        have g3 : (65 : Int) ≤ (b.toNat : Int) := by omega
        have g4 : (b.toNat : Int) ≤ 90 := by omega
        have HPU := Lib.hid (fun v hv => HU.out.put (v := v) HAT.out hv (Nat.le_refl _))
        have hlbx := HLB.out
        have HX := Lib.hid (show ∀ x : Int, x = (b.toNat : Int) → x + 32 = ((Al.lb b).toNat : Int) by intro x hx; rw [hx]; exact hlbx.symm)
        clear hlbx g1 g2
        generalize hx : (b.toNat : Int) = x at *
        have HXX := Lib.hid (HX.out x rfl)
        clear hx
        go_wp2
        go_roundw
        case rel => exact ⟨k + 1, by omega, by go_num, HPU.out _ (by have := HXX.out; omega)⟩
        case measure => simp [intOf]; omega
      · have HSK := Lib.hid (HU.out.skip HAT.out (Al.lb_else hbig))
        have hb2 : (b.toNat : Int) < 65 ∨ (65 ≤ (b.toNat : Int) ∧ 90 < (b.toNat : Int)) := by omega
        clear hbig
        generalize (b.toNat : Int) = x at *
        rcases hb2 with hb2 | ⟨hb2, hb3⟩
        all_goals
          go_wp2
          go_roundw
          case rel => exact ⟨k + 1, by omega, by go_num, HSK.out⟩
          case measure => simp [intOf]; omega
    · have hkn : k = s.size := by omega
      subst hkn
      have hcv := HU.out.conv (n := s.size) (c := cc) HLL.out
      go_wp2
      go_ret
      exact ⟨rfl, HU.out.2⟩
theorem is_any (s : ByteArray) (hs : s.size ≤ maxLen) (w : World) : Calls Tryz.prog 183 #[.string s] w fun e w' => e = .returned (.bool (Al.isX (lst s))) ∧ Below w.heap.size w w' := by
  have hll := lst_length s
  by_cases h : 4 ≤ s.size
  · have hx : Al.isX (lst s) = decide (Al.low ((lst s).take 4) = [120, 110, 45, 45]) := by unfold Al.isX; rw [hll, decide_eq_true h, Bool.true_and]
    have hex := extract_take s 4 h
    have hls : lst (s.extract 0 4) = (lst s).take 4 := by rw [hex, lst_str]
    have hcl := fun w => lower_any (s.extract 0 4) (by rw [hex, str_size, List.length_take]; unfold maxLen; omega) w
    rw [hls] at hcl
    have HCL := Lib.hid hcl; have HX := Lib.hid hx
    clear hll hx hex hls hcl
    have hi : (4 : Int) ≤ (s.size : Int) := by omega
    go_enter Tryz.func183, Tryz.ntmps183
    go_wp2_with fail
    refine (HCL.out _).mono ?_
    rintro e w1 ⟨rfl, hb⟩
    have HB := Lib.hid hb; clear hb
    generalize Al.low ((lst s).take 4) = M at *
    go_wp2
    go_ret
    refine ⟨?_, HB.out⟩
    have htl : (str M).toList = M := by rw [ByteArray.toList_eq]; rfl
    show Ending.returned (.bool ((str M).toList == [120, 110, 45, 45])) = _
    rw [htl, HX.out]
    by_cases hM : M = [120, 110, 45, 45]
    · subst hM; rfl
    · rw [decide_eq_false hM, beq_eq_false_iff_ne.2 hM]
  · have hx : Al.isX (lst s) = false := by unfold Al.isX; rw [hll, decide_eq_false h, Bool.false_and]
    rw [hx]
    have hi : (s.size : Int) < 4 := by omega
    go_enter Tryz.func183, Tryz.ntmps183
    go_wp2
    go_ret
    exact ⟨rfl, Below.refl _ _⟩
end Go.Proofs.YtddieenjdaociaaGreatDoor
