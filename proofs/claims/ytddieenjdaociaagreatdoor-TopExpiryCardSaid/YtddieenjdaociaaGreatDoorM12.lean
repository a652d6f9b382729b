/- idna.ToASCII, ToUnicode at the tables without rows, on a name of one label of letters. script.Level, skeleton.Key, bundle.Canon at the tables without rows, on a name of one label of letters. bundle.Canon at the tables without rows, on a name of one label of letters. -/
import Derived.Test.YtddieenjdaociaaGreatDoorM11
namespace Go.Proofs.YtddieenjdaociaaGreatDoor
open Go Go.RowKit Go.Shelf
set_option linter.unusedVariables false

/-- The code points of a name in small letters; the name in small letters. -/
def lowS (s : ByteArray) : List Int := (nums (lst s)).map lowc
def cn (s : ByteArray) : ByteArray := str ((lowS s).map byt)
theorem lowS_len (s : ByteArray) : (lowS s).length = s.size := by unfold lowS; rw [List.length_map, nums_length, lst_length]
theorem cn_size (s : ByteArray) : (cn s).size = s.size := by unfold cn; rw [str_size, List.length_map, lowS_len]
theorem chk_one {x : ByteArray} (h0 : 0 < x.size) (hn : x.size ≤ 63) : Sp.chk [x] = (0, 0) := by
  refine Sp.chk_ok [x] (by simp) ?_ ?_
  · intro j s hj hs
    have : j = 0 := by simp at hj; omega
    subst this
    injection hs with hs; subst hs
    omega
  · simp [Sp.bytes]; omega
theorem nm_one {x : ByteArray} (h0 : 0 < x.size) (hn : x.size ≤ 63) : Sp.nm [x] = x := by
  unfold Sp.nm
  rw [chk_one h0 hn, if_pos rfl]
  unfold Sp.nmj
  cases x
  simp [Lib.join, Lib.joinTail]
set_option maxRecDepth 100000 in
set_option maxHeartbeats 4000000 in
theorem iascii_alp (s : ByteArray) (w : World) (h0 : 0 < s.size) (hn : s.size ≤ 63) (ha : Alp (nums (lst s))) :
    Calls Tryz.prog 153 #[t0, .string s] w (RetL (lowS s) [.string (cn s), .int .i64 0, .int .i64 0] w) := by
  have hp := fun w => process_alp s w h0 hn ha
  have hcs := cn_size s
  have hlen := lowS_len s
  have hll : Low (lowS s) := ha.low
  have HP := Lib.hid (show ∀ w, Calls Tryz.prog 136 #[t0, .string s] w (RetL (lowS s) [.int .i64 0, .int .i64 0] w) from hp)
  have hck := fun A c B w hr => schk_any A c [cn s] B w hr (by simp)
  rw [chk_one (by omega) (by omega)] at hck
  have hnm := fun A c B w hr hB hc => name_any A c [cn s] B w hr hB (by simp) hc
  rw [chk_one (by omega) (by omega), nm_one (by omega) (by omega)] at hnm
  have HCK := Lib.hid hck
  have HNM := Lib.hid hnm
  have HCN := Lib.hid (show str ((lowS s).map byt) = cn s from rfl)
  generalize cn s = y at *
  generalize lowS s = l at *
  generalize s.size = n at *
  have HL := Lib.hid hlen
  have HLO := Lib.hid hll
  have HX := Lib.hid (Bk.new w 30 t0c)
  have HB0 := Lib.hid ((Below.refl w.heap.size w).alloc (Nat.le_refl _) (.cells t0c 30))
  clear ha hp hck hnm hlen hll hcs
  go_enter Tryz.func153, Tryz.ntmps153
  go_wp2_with fail
  refine (HP.out _).mono ?_
  rintro e w1 ⟨g, c, A, c', rfl, hr1, hi1, hb1⟩
  rw [HL.out] at hr1 hi1
  have HR1 := Lib.hid hr1
  have HI1 := Lib.hid hi1
  have HB1 := Lib.hid (HB0.out.trans (hb1.mono (by simp)))
  have hs1 : w.heap.size + 1 ≤ w1.heap.size := by have := hb1.size; simp at this; omega
  obtain ⟨b, off, u, hA, hgb, hu, hcell⟩ := hr1.at_ (show 0 < 1 by omega)
  obtain rfl : u = .slice A n c' := by injection hu with hu; exact hu.symm
  injection hA with hA; injection hA with hA hA2; subst hA; subst hA2
  have hcell0 : w1.cell? ⟨g, 0, none⟩ = some (.slice A n c') := hcell
  clear hr1 hi1 hb1 HX HB0 hu hcell
  go_wp2_with fail
  refine wp_loop_rounds 2 ?_
  rw [rounds_succ]
  go_wp2_with fail
  refine (alenc_low A n c' l _ w1 HI1.out (Nat.le_refl _) h0 hn HLO.out.let_).mono ?_
  rintro e w2 ⟨rfl, hb2⟩
  rw [HCN.out]
  have HR2 := Lib.hid ((HR1.out.below hb2).more hb2.size)
  have HI2 := Lib.hid ((HI1.out.below hb2).more hb2.size)
  have HB2 := Lib.hid (HB1.out.trans (hb2.mono (by omega)))
  have hs2 := hb2.size
  clear hb2 hcell0
  go_wp2_with (at_builtin; refine app_str (by rfl) _ _ rfl (base := w2.heap.size) (xs := []) rfl (World.ownsRow_nil _ _ _ _) rfl (rd_one_str w2 y) (by omega) (by simp) ?_)
  intro A3 c3 w3 ho3 hg3 _
  have hb3 : Below w2.heap.size w2 w3 := ((Below.refl _ _).alloc (Nat.le_refl _) _).grown hg3 (by simp) (fun q h => by cases h)
  have HO3 := Lib.hid (show w3.ownsRow w2.heap.size 9 1 (.slice A3 1 c3) 1 (strs [y]) from ho3)
  have HR3 := Lib.hid ((HR2.out.below hb3).more hb3.size)
  have HI3 := Lib.hid ((HI2.out.below hb3).more hb3.size)
  have HB3 := Lib.hid (HB2.out.trans (hb3.mono (by omega)))
  have hs3 := hb3.size
  clear ho3 hg3 hb3
  go_wp2_with fail
  rw [rounds_succ]
  go_wp2_with fail
  refine (HCK.out A3 c3 _ _ (Rd.of_own HO3.out)).mono ?_
  rintro e w4 ⟨rfl, rfl⟩
  go_wp2_with fail
  have hcap : 1 ≤ c3 := by
    obtain ⟨g, _, _, _, h, _⟩ := own_at HO3.out (by omega)
    exact h
  refine (HNM.out A3 c3 _ _ (Rd.of_own HO3.out) (Nat.le_refl _) hcap).mono ?_
  rintro e w5 ⟨rfl, hb5⟩
  have HR5 := Lib.hid ((HR3.out.below hb5).more hb5.size)
  have HI5 := Lib.hid ((HI3.out.below hb5).more hb5.size)
  have HB5 := Lib.hid (HB3.out.trans (hb5.mono (by omega)))
  clear hb5
  go_wp2
  refine bodyPost_ret (results_four rfl _ _ _) rfl ?_
  exact ⟨g, c, A, c', rfl, by rw [HL.out]; exact HR5.out, by rw [HL.out]; exact HI5.out, HB5.out⟩
set_option maxHeartbeats 1000000 in
theorem toascii_alp (s : ByteArray) (w : World) (h0 : 0 < s.size) (hn : s.size ≤ 63) (ha : Alp (nums (lst s))) :
    Calls Tryz.prog 134 #[t0, .string s] w fun e w' => e = .returned (.tuple #[.string (cn s), .int .i64 0, .int .i64 0]) ∧ Below w.heap.size w w' := by
  have HP := Lib.hid (fun w => iascii_alp s w h0 hn ha)
  have HB0 := Lib.hid ((Below.refl w.heap.size w).alloc (Nat.le_refl _) (.cells t0c 30))
  clear ha
  go_enter Tryz.func134, Tryz.ntmps134
  go_wp2_with fail
  refine (HP.out _).mono ?_
  rintro e w1 ⟨g, c, A, c', rfl, _, _, hb1⟩
  have HB1 := Lib.hid (HB0.out.trans (hb1.mono (by simp)))
  clear hb1
  go_wp2
  go_ret3
  exact ⟨rfl, HB1.out⟩
set_option maxRecDepth 100000 in
set_option maxHeartbeats 1000000 in
theorem tounicode_alp (s : ByteArray) (w : World) (h0 : 0 < s.size) (hn : s.size ≤ 63) (ha : Alp (nums (lst s))) :
    Calls Tryz.prog 135 #[t0, .string s] w fun e w' => e = .returned (.tuple #[.string (cn s), .int .i64 0, .int .i64 0]) ∧ Below w.heap.size w w' := by
  have HP := Lib.hid (fun w => iascii_alp s w h0 hn ha)
  have HB0 := Lib.hid ((Below.refl w.heap.size w).alloc (Nat.le_refl _) (.cells t0c 30))
  have hlen := lowS_len s
  have hll : Low (lowS s) := ha.low
  have HL := Lib.hid hlen
  have HLO := Lib.hid hll
  have HCN := Lib.hid (show str ((lowS s).map byt) = cn s from rfl)
  generalize cn s = y at *
  generalize lowS s = l at *
  generalize s.size = n at *
  clear ha hlen hll
  go_enter Tryz.func135, Tryz.ntmps135
  go_wp2_with fail
  refine (HP.out _).mono ?_
  rintro e w1 ⟨g, c, A, c', rfl, hr1, hi1, hb1⟩
  have HB1 := Lib.hid (HB0.out.trans (hb1.mono (by simp)))
  have hs1 : w.heap.size + 1 ≤ w1.heap.size := by have := hb1.size; simp at this; omega
  have hrr : RdR w1 w1.heap.size (some ⟨g, 0, none⟩) [l] := ⟨_, hr1, fun i ys hi => by
    cases i with
    | zero => injection hi with hi; subst hi; exact ⟨A, c', rfl, hi1⟩
    | succ i => simp at hi⟩
  have hj := sjoin_any (some ⟨g, 0, none⟩) c [l] w1.heap.size w1 hrr (Nat.le_refl _) (by simp [Sp.total]; rw [HL.out]; omega) (show 1 ≤ maxLen by unfold maxLen; omega)
  have hjl : Sp.join [l] = l := by simp [Sp.join]
  rw [hjl] at hj
  have HJ := Lib.hid hj
  clear hb1 hr1 hi1 hrr hj hjl
  go_wp2_with fail
  refine HJ.out.mono ?_
  rintro e w2 ⟨A2, c2, rfl, ho2, hb2⟩
  have HO2 := Lib.hid ho2
  have HB2 := Lib.hid (HB1.out.trans (hb2.mono (by omega)))
  have hs2 := hb2.size
  have hec := encode_ascii A2 c2 l _ w2 (Rd.of_own ho2) (Nat.le_refl _) (by rw [HL.out]; omega) HLO.out.let_
  rw [HCN.out] at hec
  have HEC := Lib.hid hec
  clear hb2 ho2 hec
  go_wp2_with fail
  refine HEC.out.mono ?_
  rintro e w3 ⟨rfl, hb3⟩
  have HB3 := Lib.hid (HB2.out.trans (hb3.mono (by omega)))
  clear hb3
  go_wp2
  go_ret3
  exact ⟨rfl, HB3.out⟩
end Go.Proofs.YtddieenjdaociaaGreatDoor
namespace Go.Proofs.YtddieenjdaociaaGreatDoor
open Go Go.RowKit Go.Shelf
set_option linter.unusedVariables false

set_option maxHeartbeats 1000000 in
theorem sascii_yes (A : Option Addr) (n c : Nat) (l : List Int) (B : Nat) (w : World) (hr : Rd w B 1 A n (ints l)) (hn : n ≤ 4096) (ha : Let l) :
    Calls Tryz.prog 163 #[.slice A n c] w fun e w' => e = .returned (.bool true) ∧ w' = w := by
  have HR := Lib.hid hr; clear hr
  have HA := Lib.hid ha; clear ha
  go_enter Tryz.func163, Tryz.ntmps163
  go_wp2_with fail
  go_loop [7] (fun i => ∃ k : Nat, k ≤ n ∧ i = .int .i64 k) (fun i => n - (intOf i).toNat)
  case atStart => exact ⟨0, by omega, rfl⟩
  case round =>
    obtain ⟨k, hk, rfl⟩ := hrel
    by_cases hlt : k < n
    · obtain ⟨b, off, cc, rfl, hb, hat, hcell⟩ := ints_cell HR.out hlt
      obtain ⟨g0, g1⟩ := HA.out cc (List.mem_of_getElem? hat)
      clear hat
      go_wp2
      go_round
      case rel => exact ⟨k + 1, by omega, by go_num⟩
      case measure => simp [intOf]; omega
    · go_wp2
      go_ret
      exact ⟨rfl, rfl⟩
set_option maxHeartbeats 1000000 in
theorem level_ascii (A : Option Addr) (n c : Nat) (l : List Int) (B : Nat) (w : World) (hr : Rd w B 1 A n (ints l)) (hB : B ≤ w.heap.size) (hn : n ≤ 4096) (ha : Let l) :
    Calls Tryz.prog 137 #[t0, .slice A n c] w fun e w' => e = .returned (.tuple #[.int .i64 1, .int .i64 0]) ∧ Below w.heap.size w w' := by
  have HA := Lib.hid ha
  have HB0 := Lib.hid ((Below.refl w.heap.size w).alloc (Nat.le_refl _) (.cells t0c 30))
  have HR0 := Lib.hid (hr.alloc hB (.cells t0c 30)); clear hr ha
  go_enter Tryz.func137, Tryz.ntmps137
  go_wp2_with fail
  refine (order_ascii A n c l B _ HR0.out (by simp; omega) hn HA.out).mono ?_
  rintro e w1 ⟨A1, c1, rfl, _, hb1⟩
  have HR1 := Lib.hid (HR0.out.below (hb1.mono (by simp; omega)))
  have HB1 := Lib.hid (HB0.out.trans (hb1.mono (by simp)))
  clear hb1 HR0 HB0
  go_wp2_with fail
  refine (sascii_yes A n c l B _ HR1.out hn HA.out).mono ?_
  rintro e w2 ⟨rfl, rfl⟩
  go_wp2_with fail
  go_ret2
  exact ⟨rfl, HB1.out⟩
set_option maxRecDepth 100000 in
set_option maxHeartbeats 2000000 in
theorem smap_ascii (A : Option Addr) (n c : Nat) (l : List Int) (B : Nat) (w : World) (hr : Rd w B 1 A n (ints l)) (hB : B ≤ w.heap.size) (hn : n ≤ 4096) (ha : Let l) :
    Calls Tryz.prog 193 #[t0, .slice A n c] w (RetIs 3 l [.int .i64 0] w) := by
  have hl : l.length = n := by have := hr.1; rw [ints_length] at this; omega
  have HL := Lib.hid hl
  have HA := Lib.hid ha
  have HX := Lib.hid (Bk.new w 30 t0c)
  have HB0 := Lib.hid ((Below.refl w.heap.size w).alloc (Nat.le_refl _) (.cells t0c 30))
  have HR0 := Lib.hid (hr.alloc hB (.cells t0c 30)); clear hr hl ha
  go_enter Tryz.func193, Tryz.ntmps193
  go_wp2_with fail
  refine (order_ascii A n c l B _ HR0.out (by simp; omega) hn HA.out).mono ?_
  rintro e w1 ⟨A1, c1, rfl, _, hb1⟩
  have HX1 := Lib.hid (HX.out.below hb1 HX.out.lt)
  have HR1 := Lib.hid (HR0.out.below (hb1.mono (by simp; omega)))
  have HB1 := Lib.hid (HB0.out.trans (hb1.mono (by simp)))
  have hs1 : w.heap.size + 1 ≤ w1.heap.size := by have := hb1.size; simp at this; omega
  clear hb1 HX HR0 HB0
  go_wp2_with fail
  go_loopw [8, 23] (fun vo vi wr => ∃ (k : Nat) (A : Option Addr) (c : Nat), k ≤ n ∧ vi = .int .i64 k ∧ vo = .slice A k c ∧ wr.ownsRow w1.heap.size 3 1 (.slice A k c) k (ints (l.take k)) ∧ Below w1.heap.size w1 wr) (fun _ vi _ => n - (intOf vi).toNat)
  case atStart => exact ⟨0, none, 0, by omega, rfl, rfl, World.ownsRow_nil _ _ _ _, Below.refl _ _⟩
  case round =>
    obtain ⟨k, A2, c2, hk, rfl, rfl, ho, hb⟩ := hrel
    have HO := Lib.hid ho; have HB := Lib.hid hb
    have hsw := hb.size
    have HX2 := Lib.hid (HX1.out.below hb HX1.out.lt)
    clear ho hb
    by_cases hlt : k < n
    · obtain ⟨b, off, cc, rfl, hb, hat, hcell⟩ := ints_cell (HR1.out.below (HB.out.mono (by omega))) hlt
      have hmp : l.take (k + 1) = l.take k ++ [cc] := by
        obtain ⟨q1, q2⟩ := List.getElem?_eq_some_iff.1 hat
        rw [List.take_succ_eq_append_getElem q1, q2]
      have HMP := Lib.hid hmp
      clear hat hmp
      obtain ⟨x0, x1, x2, x3, x4, x5, x6, x7, x8, x9, x10, x11⟩ := box_cells HX2.out
      go_wp2_with fail
      clear x0 x1 x2 x3 x4 x5 x6 x7 x8 x9 x10 x11 hcell
      refine (ignorable_t0 cc _).mono ?_
      rintro e w3 ⟨rfl, hb3⟩
      have HX3 := Lib.hid (HX2.out.below hb3 HX2.out.lt)
      have HO3 := Lib.hid (own_past HO.out hb3)
      have HB3 := Lib.hid (HB.out.trans (hb3.mono (by omega)))
      have hs3 := hb3.size
      clear hb3
      obtain ⟨x0, x1, x2, x3, x4, x5, x6, x7, x8, x9, x10, x11⟩ := box_cells HX3.out
      go_wp2_with fail
      clear x0 x1 x2 x3 x4 x5 x6 x7 x8 x9 x10 x11
      refine (prototype_t0 cc _).mono ?_
      rintro e w4 ⟨rfl, hb4⟩
      have HO4 := Lib.hid (own_past HO3.out hb4)
      have HB4 := Lib.hid (HB3.out.trans (hb4.mono (by omega)))
      have hs4 := hb4.size
      clear hb4
      go_wp2_with (at_builtin; refine app_int (by rfl) _ _ rfl (base := w1.heap.size) rfl (HO4.out.alloc _) rfl (rd_one_int (z := w4.heap.size) rfl cc) (by omega) (by simp <;> omega) ?_)
      intro A5 c5 w5 ho5 hg5 hc5
      have HB5 := Lib.hid (own_below HO4.out HB4.out _ hg5 (by omega))
      have HO5 := Lib.hid (show w5.ownsRow w1.heap.size 3 1 (.slice A5 (k + 1) c5) (k + 1) (ints (l.take (k + 1))) by rw [HMP.out]; exact ho5)
      clear ho5 hg5 hc5
      go_wp2
      go_roundw
      case rel => exact ⟨k + 1, A5, c5, by omega, by go_num, rfl, HO5.out, HB5.out⟩
      case measure => simp [intOf]; omega
    · obtain rfl : k = n := by omega
      have ho := HO.out
      rw [List.take_of_length_le (by rw [HL.out]; omega)] at ho
      have HO := Lib.hid ho
      clear ho
      go_wp2
      go_ret2
      exact ⟨A2, c2, by rw [HL.out]; rfl, by rw [HL.out]; exact own_low HO.out (by omega), HB1.out.trans (HB.out.mono (by omega))⟩
set_option maxRecDepth 100000 in
set_option maxHeartbeats 1000000 in
theorem sof_ascii (A : Option Addr) (n c : Nat) (l : List Int) (B : Nat) (w : World) (hr : Rd w B 1 A n (ints l)) (hB : B ≤ w.heap.size) (hn : n ≤ 4096) (ha : Let l) :
    Calls Tryz.prog 168 #[t0, .slice A n c] w (RetIs 3 l [.int .i64 0] w) := by
  have hl : l.length = n := by have := hr.1; rw [ints_length] at this; omega
  have HL := Lib.hid hl
  have HA := Lib.hid ha; clear ha
  have HX := Lib.hid (Bk.new w 30 t0c)
  have HR0 := Lib.hid (hr.alloc hB (.cells t0c 30))
  have HB0 := Lib.hid ((Below.refl w.heap.size w).alloc (Nat.le_refl _) (.cells t0c 30))
  clear hr hl
  go_enter Tryz.func168, Tryz.ntmps168
  go_wp2_with fail
  refine (nfd_ascii A n c l B _ HR0.out (by simp; omega) hn HA.out).mono ?_
  rintro e w1 ⟨A1, c1, rfl, ho1, hb1⟩
  rw [HL.out] at ho1 ⊢
  have HX1 := Lib.hid (HX.out.below hb1 HX.out.lt)
  have HR1 := Lib.hid (Rd.of_own ho1)
  have HB1 := Lib.hid (HB0.out.trans (hb1.mono (by simp)))
  have hs1 : w.heap.size + 1 ≤ w1.heap.size := by have := hb1.size; simp at this; omega
  clear hb1 ho1 HX HB0
  obtain ⟨x0, x1, x2, x3, x4, x5, x6, x7, x8, x9, x10, x11⟩ := box_cells HX1.out
  go_wp2_with fail
  clear x0 x1 x2 x3 x4 x5 x6 x7 x8 x9 x10 x11
  refine (smap_ascii A1 n c1 l _ _ HR1.out (Nat.le_refl _) hn HA.out).mono ?_
  rintro e w2 ⟨A2, c2, rfl, ho2, hb2⟩
  rw [HL.out] at ho2 ⊢
  have HX2 := Lib.hid (HX1.out.below hb2 HX1.out.lt)
  have HR2 := Lib.hid (Rd.of_own ho2)
  have HB2 := Lib.hid (HB1.out.trans (hb2.mono (by omega)))
  have hs2 := hb2.size
  clear hb2 ho2 HX1 HB1
  obtain ⟨x0, x1, x2, x3, x4, x5, x6, x7, x8, x9, x10, x11⟩ := box_cells HX2.out
  go_wp2_with fail
  clear x0 x1 x2 x3 x4 x5 x6 x7 x8 x9 x10 x11
  refine (nfd_ascii A2 n c2 l _ _ HR2.out (Nat.le_refl _) hn HA.out).mono ?_
  rintro e w3 ⟨A3, c3, rfl, ho3, hb3⟩
  have HO3 := Lib.hid ho3
  have HB3 := Lib.hid (HB2.out.trans (hb3.mono (by omega)))
  clear hb3 ho3
  go_wp2
  go_ret2
  exact ⟨A3, c3, rfl, own_low HO3.out (by omega), HB3.out⟩
set_option maxHeartbeats 1000000 in
theorem skey_ascii (A : Option Addr) (n c : Nat) (l : List Int) (B : Nat) (w : World) (hr : Rd w B 1 A n (ints l)) (hB : B ≤ w.heap.size) (hn : n ≤ 4096) (ha : Let l) :
    Calls Tryz.prog 138 #[t0, .slice A n c] w fun e w' => e = .returned (.tuple #[.string (str (l.map byt)), .int .i64 0]) ∧ Below w.heap.size w w' := by
  have hl : l.length = n := by have := hr.1; rw [ints_length] at this; omega
  have HL := Lib.hid hl
  have HA := Lib.hid ha; clear ha
  have HR0 := Lib.hid (hr.alloc hB (.cells t0c 30))
  have HB0 := Lib.hid ((Below.refl w.heap.size w).alloc (Nat.le_refl _) (.cells t0c 30))
  clear hr hl
  go_enter Tryz.func138, Tryz.ntmps138
  go_wp2_with fail
  refine (sof_ascii A n c l B _ HR0.out (by simp; omega) hn HA.out).mono ?_
  rintro e w1 ⟨A1, c1, rfl, ho1, hb1⟩
  have HB1 := Lib.hid (HB0.out.trans (hb1.mono (by simp)))
  have hs1 : w.heap.size + 1 ≤ w1.heap.size := by have := hb1.size; simp at this; omega
  have HEC := Lib.hid (encode_ascii A1 c1 l _ w1 (Rd.of_own ho1) (Nat.le_refl _) (by rw [HL.out]; omega) HA.out)
  clear hb1 ho1 HB0
  go_wp2_with fail
  refine HEC.out.mono ?_
  rintro e w2 ⟨rfl, hb2⟩
  have HB2 := Lib.hid (HB1.out.trans (hb2.mono (by omega)))
  clear hb2
  go_wp2
  go_ret2
  exact ⟨rfl, HB2.out⟩
/-- A struct that comes back through a cell, and a number beside it. -/
theorem results_row_tmp {P : Program} {fn : Func} {p u : Tmp} {ty : TypeId} (h : fn.results = #[.cell p ty, .tmp u]) (tmps : Array Value) (w : World) (g : Nat) (cs : Array Value)
    (hp : tmps.getD p undef = .pointer (some ⟨g, 0, none⟩)) (hg : Bk w g ty cs) {fields : Array Field} (hu : P.underlying ty = some (.struct fields)) (hc : (P.info? ty).map (·.size) = some cs.size) :
    (results fn tmps).run P w = .ok (.tuple #[.agg cs, tmps.getD u undef]) w := by
  rw [results_cell_tmp h, hp]
  have hl := run_loadVar_row (P := P) w g ty ty cs (0, 0) _ hg hu rfl hc
  simp [asAddr, Result.andThen, hl]
end Go.Proofs.YtddieenjdaociaaGreatDoor
namespace Go.Proofs.YtddieenjdaociaaGreatDoor
open Go Go.RowKit Go.Shelf
set_option linter.unusedVariables false

/-- The cells of a name. -/
def nameC (a u k : ByteArray) : Array Value := #[.string a, .string u, .string k]
set_option maxRecDepth 100000 in
set_option maxHeartbeats 4000000 in
theorem canon_alp (s : ByteArray) (w : World) (h0 : 0 < s.size) (hn : s.size ≤ 63) (ha : Alp (nums (lst s))) :
    Calls Tryz.prog 114 #[t0, .string s] w fun e w' => e = .returned (.tuple #[.agg (nameC (cn s) (cn s) (cn s)), .int .i64 0]) ∧ Below w.heap.size w w' := by
  have HTA := Lib.hid (fun w => toascii_alp s w h0 hn ha)
  have HTU := Lib.hid (fun w => tounicode_alp s w h0 hn ha)
  have HP := Lib.hid (show ∀ w, Calls Tryz.prog 136 #[t0, .string s] w (RetL (lowS s) [.int .i64 0, .int .i64 0] w) from fun w => process_alp s w h0 hn ha)
  have hcs := cn_size s
  have hlen := lowS_len s
  have hll : Low (lowS s) := ha.low
  have hye : (cn s).toList.isEmpty = false := by rw [size_empty]; exact decide_eq_false (by omega)
  have HCN := Lib.hid (show str ((lowS s).map byt) = cn s from rfl)
  generalize cn s = y at *
  generalize lowS s = l at *
  generalize s.size = n at *
  have HL := Lib.hid hlen
  have HLO := Lib.hid hll
  have hsk : ∀ (A : Option Addr) (c B : Nat) (w : World), Rd w B 1 A n (ints l) → B ≤ w.heap.size → Calls Tryz.prog 138 #[t0, .slice A n c] w fun e w' => e = .returned (.tuple #[.string y, .int .i64 0]) ∧ Below w.heap.size w w' := by
    intro A c B w hr hB
    have := skey_ascii A n c l B w hr hB (by omega) hll.let_
    rwa [HCN.out] at this
  have HSK := Lib.hid hsk
  have hz : w.heap.size < (w.alloc (.cells t0c 30)).heap.size := by simp
  have HX := Lib.hid ((Bk.new w 30 t0c).alloc (.cells #[.string ByteArray.empty, .string ByteArray.empty, .string ByteArray.empty] 127))
  have HN := Lib.hid (bk_second w (.cells t0c 30) 127 #[.string ByteArray.empty, .string ByteArray.empty, .string ByteArray.empty])
  have HB0 := Lib.hid (below_two w (.cells t0c 30) (.cells #[.string ByteArray.empty, .string ByteArray.empty, .string ByteArray.empty] 127))
  clear ha hlen hll hcs hsk
  go_enter Tryz.func114, Tryz.ntmps114
  go_wp2_with fail
  refine (HTA.out _).mono ?_
  rintro e w1 ⟨rfl, hb1⟩
  have HX1 := Lib.hid (HX.out.below hb1 HX.out.lt)
  have HN1 := Lib.hid (HN.out.below hb1 HN.out.lt)
  have HB1 := Lib.hid (HB0.out.trans (hb1.mono (by simp; omega)))
  have hs1 : w.heap.size + 2 ≤ w1.heap.size := by have := hb1.size; simp at this; omega
  clear hb1 HX HN HB0
  obtain ⟨x0, x1, x2, x3, x4, x5, x6, x7, x8, x9, x10, x11⟩ := box_cells HX1.out
  go_wp2_with fail
  clear x0 x1 x2 x3 x4 x5 x6 x7 x8 x9 x10 x11
  refine (HTU.out _).mono ?_
  rintro e w2 ⟨rfl, hb2⟩
  have HX2 := Lib.hid (HX1.out.below hb2 HX1.out.lt)
  have HN2 := Lib.hid (HN1.out.below hb2 HN1.out.lt)
  have HB2 := Lib.hid (HB1.out.trans (hb2.mono (by omega)))
  have hs2 := hb2.size
  clear hb2 HX1 HN1 HB1
  obtain ⟨x0, x1, x2, x3, x4, x5, x6, x7, x8, x9, x10, x11⟩ := box_cells HX2.out
  go_wp2_with fail
  clear x0 x1 x2 x3 x4 x5 x6 x7 x8 x9 x10 x11
  refine (HP.out _).mono ?_
  rintro e w3 ⟨g, c, A, c', rfl, hr3, hi3, hb3⟩
  rw [HL.out] at hr3 hi3
  have HX3 := Lib.hid (HX2.out.below hb3 HX2.out.lt)
  have HN3 := Lib.hid (HN2.out.below hb3 HN2.out.lt)
  have HB3 := Lib.hid (HB2.out.trans (hb3.mono (by omega)))
  have HI3 := Lib.hid hi3
  have hs3 := hb3.size
  obtain ⟨b, off, u, hA, hgb, hu, hcell⟩ := hr3.at_ (show 0 < 1 by omega)
  obtain rfl : u = .slice A n c' := by injection hu with hu; exact hu.symm
  injection hA with hA; injection hA with hA hA2; subst hA; subst hA2
  have hcell0 : w3.cell? ⟨g, 0, none⟩ = some (.slice A n c') := hcell
  clear hr3 hi3 hb3 HX2 HN2 HB2 hu hcell
  obtain ⟨x0, x1, x2, x3, x4, x5, x6, x7, x8, x9, x10, x11⟩ := box_cells HX3.out
  have x12 := hcell0
  have hxl := HX3.out.lt
  have hgl : g < w3.heap.size := by omega
  go_wp2_with fail
  go_region_held3 (fun w' => w'.cell? ⟨w.heap.size, 0, none⟩ = some (.slice none 0 0) ∧ w'.cell? ⟨w.heap.size, 1, none⟩ = some (.slice none 0 0) ∧ w'.cell? ⟨w.heap.size, 2, none⟩ = some (.slice none 0 0) ∧ w'.cell? ⟨w.heap.size, 3, none⟩ = some (.slice none 0 0) ∧ w'.cell? ⟨w.heap.size, 4, none⟩ = some (.slice none 0 0) ∧ w'.cell? ⟨w.heap.size, 5, none⟩ = some (.slice none 0 0) ∧ w'.cell? ⟨w.heap.size, 6, none⟩ = some (.slice none 0 0) ∧ w'.cell? ⟨w.heap.size, 7, none⟩ = some (.slice none 0 0) ∧ w'.cell? ⟨w.heap.size, 8, none⟩ = some (.slice none 0 0) ∧ w'.cell? ⟨w.heap.size, 9, none⟩ = some (.slice none 0 0) ∧ w'.cell? ⟨w.heap.size, 10, none⟩ = some (.slice none 0 0) ∧ w'.cell? ⟨w.heap.size, 11, none⟩ = some (.slice none 0 0) ∧ w'.cell? ⟨g, 0, none⟩ = some (.slice A n c'))
    (first
      | exact HS4.out
      | go_keep
      | fail)
    (first
      | (go_at_call 137; refine (level_ascii A n c' l _ _ (HI3.out.drew) (Nat.le_refl _) (by omega) HLO.out.let_).mono ?_; rintro e w4 ⟨rfl, hb4⟩; have HS4 := Lib.hid (show w4.cell? ⟨w.heap.size, 0, none⟩ = some (.slice none 0 0) ∧ w4.cell? ⟨w.heap.size, 1, none⟩ = some (.slice none 0 0) ∧ w4.cell? ⟨w.heap.size, 2, none⟩ = some (.slice none 0 0) ∧ w4.cell? ⟨w.heap.size, 3, none⟩ = some (.slice none 0 0) ∧ w4.cell? ⟨w.heap.size, 4, none⟩ = some (.slice none 0 0) ∧ w4.cell? ⟨w.heap.size, 5, none⟩ = some (.slice none 0 0) ∧ w4.cell? ⟨w.heap.size, 6, none⟩ = some (.slice none 0 0) ∧ w4.cell? ⟨w.heap.size, 7, none⟩ = some (.slice none 0 0) ∧ w4.cell? ⟨w.heap.size, 8, none⟩ = some (.slice none 0 0) ∧ w4.cell? ⟨w.heap.size, 9, none⟩ = some (.slice none 0 0) ∧ w4.cell? ⟨w.heap.size, 10, none⟩ = some (.slice none 0 0) ∧ w4.cell? ⟨w.heap.size, 11, none⟩ = some (.slice none 0 0) ∧ w4.cell? ⟨g, 0, none⟩ = some (.slice A n c') from ⟨(hb4.cell (p := ⟨w.heap.size, 0, none⟩) hxl).trans x0, (hb4.cell (p := ⟨w.heap.size, 1, none⟩) hxl).trans x1, (hb4.cell (p := ⟨w.heap.size, 2, none⟩) hxl).trans x2, (hb4.cell (p := ⟨w.heap.size, 3, none⟩) hxl).trans x3, (hb4.cell (p := ⟨w.heap.size, 4, none⟩) hxl).trans x4, (hb4.cell (p := ⟨w.heap.size, 5, none⟩) hxl).trans x5, (hb4.cell (p := ⟨w.heap.size, 6, none⟩) hxl).trans x6, (hb4.cell (p := ⟨w.heap.size, 7, none⟩) hxl).trans x7, (hb4.cell (p := ⟨w.heap.size, 8, none⟩) hxl).trans x8, (hb4.cell (p := ⟨w.heap.size, 9, none⟩) hxl).trans x9, (hb4.cell (p := ⟨w.heap.size, 10, none⟩) hxl).trans x10, (hb4.cell (p := ⟨w.heap.size, 11, none⟩) hxl).trans x11, (hb4.cell (p := ⟨g, 0, none⟩) hgl).trans x12⟩))
      | fail)
  clear x0 x1 x2 x3 x4 x5 x6 x7 x8 x9 x10 x11 x12 hcell0 hxl hgl
  have HX4 := Lib.hid ((HX3.out.drew).below hb4 HX3.out.lt)
  have HN4 := Lib.hid ((HN3.out.drew).below hb4 HN3.out.lt)
  have HB4 := Lib.hid (HB3.out.drew.trans (hb4.mono (by show w.heap.size ≤ w3.heap.size; omega)))
  have HI4 := Lib.hid (((HI3.out.drew).below hb4).more hb4.size)
  have hcell0 : w4.cell? ⟨g, 0, none⟩ = some (.slice A n c') := HS4.out.2.2.2.2.2.2.2.2.2.2.2.2
  have hs4 : w3.heap.size ≤ w4.heap.size := hb4.size
  clear hb4 HX3 HN3 HB3 HI3 HS4
  obtain ⟨x0, x1, x2, x3, x4, x5, x6, x7, x8, x9, x10, x11⟩ := box_cells HX4.out
  have x12 := hcell0
  have hxl := HX4.out.lt
  have hgl : g < w4.heap.size := by omega
  go_wp2_with fail
  go_region_held3 (fun w' => w'.cell? ⟨w.heap.size, 0, none⟩ = some (.slice none 0 0) ∧ w'.cell? ⟨w.heap.size, 1, none⟩ = some (.slice none 0 0) ∧ w'.cell? ⟨w.heap.size, 2, none⟩ = some (.slice none 0 0) ∧ w'.cell? ⟨w.heap.size, 3, none⟩ = some (.slice none 0 0) ∧ w'.cell? ⟨w.heap.size, 4, none⟩ = some (.slice none 0 0) ∧ w'.cell? ⟨w.heap.size, 5, none⟩ = some (.slice none 0 0) ∧ w'.cell? ⟨w.heap.size, 6, none⟩ = some (.slice none 0 0) ∧ w'.cell? ⟨w.heap.size, 7, none⟩ = some (.slice none 0 0) ∧ w'.cell? ⟨w.heap.size, 8, none⟩ = some (.slice none 0 0) ∧ w'.cell? ⟨w.heap.size, 9, none⟩ = some (.slice none 0 0) ∧ w'.cell? ⟨w.heap.size, 10, none⟩ = some (.slice none 0 0) ∧ w'.cell? ⟨w.heap.size, 11, none⟩ = some (.slice none 0 0) ∧ w'.cell? ⟨g, 0, none⟩ = some (.slice A n c'))
    (first
      | exact HS5.out
      | go_keep
      | fail)
    (first
      | (go_at_call 138; refine (HSK.out A c' _ _ (HI4.out.drew) (Nat.le_refl _)).mono ?_; rintro e w5 ⟨rfl, hb5⟩; have HS5 := Lib.hid (show w5.cell? ⟨w.heap.size, 0, none⟩ = some (.slice none 0 0) ∧ w5.cell? ⟨w.heap.size, 1, none⟩ = some (.slice none 0 0) ∧ w5.cell? ⟨w.heap.size, 2, none⟩ = some (.slice none 0 0) ∧ w5.cell? ⟨w.heap.size, 3, none⟩ = some (.slice none 0 0) ∧ w5.cell? ⟨w.heap.size, 4, none⟩ = some (.slice none 0 0) ∧ w5.cell? ⟨w.heap.size, 5, none⟩ = some (.slice none 0 0) ∧ w5.cell? ⟨w.heap.size, 6, none⟩ = some (.slice none 0 0) ∧ w5.cell? ⟨w.heap.size, 7, none⟩ = some (.slice none 0 0) ∧ w5.cell? ⟨w.heap.size, 8, none⟩ = some (.slice none 0 0) ∧ w5.cell? ⟨w.heap.size, 9, none⟩ = some (.slice none 0 0) ∧ w5.cell? ⟨w.heap.size, 10, none⟩ = some (.slice none 0 0) ∧ w5.cell? ⟨w.heap.size, 11, none⟩ = some (.slice none 0 0) ∧ w5.cell? ⟨g, 0, none⟩ = some (.slice A n c') from ⟨(hb5.cell (p := ⟨w.heap.size, 0, none⟩) hxl).trans x0, (hb5.cell (p := ⟨w.heap.size, 1, none⟩) hxl).trans x1, (hb5.cell (p := ⟨w.heap.size, 2, none⟩) hxl).trans x2, (hb5.cell (p := ⟨w.heap.size, 3, none⟩) hxl).trans x3, (hb5.cell (p := ⟨w.heap.size, 4, none⟩) hxl).trans x4, (hb5.cell (p := ⟨w.heap.size, 5, none⟩) hxl).trans x5, (hb5.cell (p := ⟨w.heap.size, 6, none⟩) hxl).trans x6, (hb5.cell (p := ⟨w.heap.size, 7, none⟩) hxl).trans x7, (hb5.cell (p := ⟨w.heap.size, 8, none⟩) hxl).trans x8, (hb5.cell (p := ⟨w.heap.size, 9, none⟩) hxl).trans x9, (hb5.cell (p := ⟨w.heap.size, 10, none⟩) hxl).trans x10, (hb5.cell (p := ⟨w.heap.size, 11, none⟩) hxl).trans x11, (hb5.cell (p := ⟨g, 0, none⟩) hgl).trans x12⟩))
      | fail)
  clear x0 x1 x2 x3 x4 x5 x6 x7 x8 x9 x10 x11 x12 hcell0 hxl hgl
  have HN5 := Lib.hid ((HN4.out.drew).below hb5 HN4.out.lt)
  have HB5 := Lib.hid (HB4.out.drew.trans (hb5.mono (by show w.heap.size ≤ w4.heap.size; omega)))
  have hs5 : w4.heap.size ≤ w5.heap.size := hb5.size
  clear hb5 HX4 HN4 HB4 HI4 HS5
  have y0 : w5.cell? ⟨w.heap.size + 1, 0, none⟩ = some (.string ByteArray.empty) := HN5.out.cell 0
  have y1 : w5.cell? ⟨w.heap.size + 1, 1, none⟩ = some (.string ByteArray.empty) := HN5.out.cell 1
  have y2 : w5.cell? ⟨w.heap.size + 1, 2, none⟩ = some (.string ByteArray.empty) := HN5.out.cell 2
  have f0 : w5.frozen? ⟨w.heap.size + 1, 0, none⟩ = false := HN5.out.frozen 0
  have f1 : w5.frozen? ⟨w.heap.size + 1, 1, none⟩ = false := HN5.out.frozen 1
  have f2 : w5.frozen? ⟨w.heap.size + 1, 2, none⟩ = false := HN5.out.frozen 2
  go_wp2
  have hbk := ((HN5.out.set_ 0 (.string y)).set_ 1 (.string y)).set_ 2 (.string y)
  have hbl := ((HB5.out.setCell (p := ⟨w.heap.size + 1, 0, none⟩) (by show w.heap.size ≤ w.heap.size + 1; omega) (.string y)).setCell (p := ⟨w.heap.size + 1, 1, none⟩) (by show w.heap.size ≤ w.heap.size + 1; omega) (.string y)).setCell (p := ⟨w.heap.size + 1, 2, none⟩) (by show w.heap.size ≤ w.heap.size + 1; omega) (.string y)
  exact bodyPost_ret (results_row_tmp (P := Tryz.prog) (p := 4) (u := 5) (ty := 127) rfl _ _ (w.heap.size + 1) (nameC y y y) rfl hbk Tryz.underlying127 (by kernel_rfl)) rfl ⟨rfl, hbl⟩
end Go.Proofs.YtddieenjdaociaaGreatDoor
