/- utf.Decode and utf.Encode on ASCII. order at the tables without rows, on ASCII: each list is in order. decompose and compose at the tables without rows, on ASCII: each list is in both normalization forms. compose at the tables without rows, on ASCII. -/
import Derived.Test.YtddieenjdaociaaGreatDoorM05
import Derived.Test.YtddieenjdaociaaGreatDoorTpSZ
import Derived.Test.YtddieenjdaociaaGreatDoorRqAZ
import Derived.Test.YtddieenjdaociaaGreatDoorM03
import Derived.Deep.QuietTactic
import Derived.WideKeyElems
namespace Go.Proofs.YtddieenjdaociaaGreatDoor
open Go Go.RowKit Go.Shelf
set_option linter.unusedVariables false

/-- The bytes as numbers. -/
def nums (l : List UInt8) : List Int := l.map fun b => (b.toNat : Int)
theorem nums_length (l : List UInt8) : (nums l).length = l.length := by simp [nums]
theorem nums_take (l : List UInt8) (k : Nat) (b : UInt8) (h : l[k]? = some b) : nums (l.take (k + 1)) = nums (l.take k) ++ [(b.toNat : Int)] := by
  obtain ⟨q1, q2⟩ := List.getElem?_eq_some_iff.1 h
  rw [List.take_succ_eq_append_getElem q1, q2]; simp [nums]
theorem head_ascii (b : UInt8) (h : (b.toNat : Int) ≤ 127) (w : World) : Calls Tryz.prog 221 #[.int .u8 (b.toNat : Int)] w fun e w' => e = .returned (.tuple #[.int .i64 1, .int .i64 (b.toNat : Int)]) ∧ w = w' := by
  have h0 : 0 ≤ (b.toNat : Int) := by omega
  generalize (b.toNat : Int) = c at *
  go_enter Tryz.func221, Tryz.ntmps221
  go_wp2_with fail
  go_ret2
  exact ⟨rfl, rfl⟩
theorem conv_none (w : World) : ∃ (c : Nat) (w1 : World), (convert 9 129 (.string ByteArray.empty)).run Tryz.prog w = .ok (.slice (some ⟨w.heap.size, 0, none⟩) 0 c) w1 ∧ Below w.heap.size w w1 := by
  obtain ⟨c, w1, h1, h2, _⟩ := conv_bytes ByteArray.empty w
  exact ⟨c, w1, h1, h2⟩
theorem extract_none (s : ByteArray) (k : Nat) : s.extract k k = ⟨#[]⟩ := by
  apply ByteArray.ext
  rw [ByteArray.data_extract]
  apply Array.toList_inj.1
  rw [Array.toList_extract]
  simp
set_option maxRecDepth 100000 in
set_option maxHeartbeats 1000000 in
theorem first_ascii (s : ByteArray) (k : Nat) (hk : k < s.size) (hs : s.size ≤ 4096) (h : (s[k].toNat : Int) ≤ 127) (w : World) : Calls Tryz.prog 198 #[.string s, .int .i64 (k : Int)] w fun e w' => e = .returned (.tuple #[.int .i64 (s[k].toNat : Int), .int .i64 1]) ∧ Below w.heap.size w w' := by
  have h0 : 0 ≤ (s[k].toNat : Int) := by omega
  obtain ⟨c1, w2, hcv, hb2⟩ := conv_none w
  have hex := extract_none s (k + 1)
  have HB2 := Lib.hid hb2
  clear hb2
  go_enter Tryz.func198, Tryz.ntmps198
  go_wp2_with fail
  refine (head_ascii s[k] h _).mono ?_
  rintro e w1 ⟨rfl, rfl⟩
  have h1 : ((k : Int) + 1).toNat = k + 1 := by omega
  go_wp2_with fail
  refine wp_loop_rounds 1 ?_
  rw [rounds_succ]
  go_wp2_with fail
  refine (length_ascii _ h0 h _).mono ?_
  rintro e w3 ⟨rfl, rfl⟩
  go_wp2_with fail
  go_ret2
  exact ⟨rfl, HB2.out⟩
/-- The call returns new numbers and something beside them. -/
def RetIs (T : TypeId) (xs : List Int) (vs : List Value) (w : World) (e : Ending) (w' : World) : Prop :=
  ∃ A c, e = .returned (.tuple (#[.slice A xs.length c] ++ vs.toArray)) ∧ w'.ownsRow w.heap.size T 1 (.slice A xs.length c) xs.length (ints xs) ∧ Below w.heap.size w w'
def Asc (l : List UInt8) : Prop := ∀ b ∈ l, (b.toNat : Int) ≤ 127
set_option maxHeartbeats 1000000 in
theorem scan_ascii (s : ByteArray) (hs : s.size ≤ 4096) (ha : Asc (lst s)) (w : World) : Calls Tryz.prog 178 #[.string s] w (RetIs 3 (nums (lst s)) [.int .i64 s.size] w) := by
  have HA := Lib.hid ha; clear ha
  go_enter Tryz.func178, Tryz.ntmps178
  go_wp2_with fail
  go_loopw [4, 5] (fun vl vi wr => ∃ (k : Nat) (A : Option Addr) (c : Nat), k ≤ s.size ∧ vi = .int .i64 k ∧ vl = .slice A k c ∧ wr.ownsRow w.heap.size 3 1 (.slice A k c) k (ints (nums ((lst s).take k))) ∧ Below w.heap.size w wr) (fun _ vi _ => s.size - (intOf vi).toNat)
  case atStart => exact ⟨0, none, 0, by omega, rfl, rfl, World.ownsRow_nil _ _ _ _, Below.refl _ _⟩
  case round =>
    obtain ⟨k, A2, c2, hk, rfl, rfl, ho, hb⟩ := hrel
    have HO := Lib.hid ho; have HB := Lib.hid hb
    clear ho hb
    by_cases hlt : k < s.size
    · have hat := lst_at s k hlt
      have hle := HA.out s[k] (List.mem_of_getElem? hat)
      have HN := Lib.hid (nums_take (lst s) k s[k] hat)
      have HC := Lib.hid (fun w => first_ascii s k hlt hs hle w)
      clear hat
      go_wp2_with fail
      refine (HC.out _).mono ?_
      rintro e w3 ⟨rfl, hb3⟩
      have HO3 := Lib.hid (own_past HO.out hb3)
      have HB3 := Lib.hid (below_step HB.out hb3)
      have hsw := HB3.out.size
      clear hb3
      go_wp2_with (at_builtin; refine app_int (by rfl) _ _ rfl (base := w.heap.size) rfl (HO3.out.alloc _) rfl (rd_one_int (z := w3.heap.size) rfl (s[k].toNat : Int)) (by omega) (by simp <;> omega) ?_)
      intro A4 c4 w4 ho4 hg4 hc4
      have HB4 := Lib.hid (own_below HO3.out HB3.out _ hg4 hsw)
      have HO4 := Lib.hid (show w4.ownsRow w.heap.size 3 1 (.slice A4 (k + 1) c4) (k + 1) (ints (nums ((lst s).take (k + 1)))) by rw [HN.out]; exact ho4)
      clear ho4 hg4 hc4
      go_wp2
      go_roundw
      case rel => exact ⟨k + 1, A4, c4, by omega, by go_num, rfl, HO4.out, HB4.out⟩
      case measure => simp [intOf]; omega
    · obtain rfl : k = s.size := by omega
      have ho := HO.out
      rw [List.take_of_length_le (by rw [lst_length]; omega)] at ho
      have HO := Lib.hid ho; clear ho
      go_wp2
      go_ret2
      have e1 : (nums (lst s)).length = s.size := by rw [nums_length, lst_length]
      refine ⟨A2, c2, ?_, ?_, HB.out⟩
      · rw [e1]; rfl
      · rw [e1]; exact HO.out
theorem decode_ascii (s : ByteArray) (hs : s.size ≤ 4096) (ha : Asc (lst s)) (w : World) : Calls Tryz.prog 156 #[.string s] w (RetIs 3 (nums (lst s)) [.int .i64 0, .int .i64 0] w) := by
  have HC := Lib.hid (fun w => scan_ascii s hs ha w); clear ha
  go_enter Tryz.func156, Tryz.ntmps156
  go_wp2_with fail
  refine (HC.out _).mono ?_
  rintro e w1 ⟨A, c, rfl, ho, hb⟩
  have HO := Lib.hid ho; have HB := Lib.hid hb
  clear ho hb
  go_wp2
  go_ret3
  exact ⟨A, c, rfl, HO.out, HB.out⟩
/-- The call returns the row, longer by ys; all below base is as it was. -/
def RetBy (base : Nat) (ys : List UInt8) (w : World) (e : Ending) (w' : World) : Prop :=
  ∃ A c, e = .returned (.slice A ys.length c) ∧ w'.ownsRow base 5 1 (.slice A ys.length c) ys.length (bys ys) ∧ Below base w w'
def byt (c : Int) : UInt8 := UInt8.ofNat c.toNat
theorem byt_num (c : Int) (h0 : 0 ≤ c) (h1 : c ≤ 127) : ((byt c).toNat : Int) = c := by
  unfold byt
  rw [UInt8.toNat_ofNat_of_lt' (by show c.toNat < 256; omega)]
  omega
set_option maxHeartbeats 1000000 in
theorem put_ascii (A : Option Addr) (c : Nat) (s : List UInt8) (v : Int) (base : Nat) (w : World) (ho : w.ownsRow base 5 1 (.slice A s.length c) s.length (bys s)) (hbase : base ≤ w.heap.size)
    (v0 : 0 ≤ v) (v1 : v ≤ 127) (hl : s.length ≤ 1000000) : Calls Tryz.prog 177 #[.slice A s.length c, .int .i64 v] w (RetBy base (s ++ [byt v]) w) := by
  have HO := Lib.hid ho
  have HN := Lib.hid (byt_num v v0 v1)
  generalize hn : s.length = n at *
  have HL := Lib.hid hn
  clear ho hn
  go_enter Tryz.func177, Tryz.ntmps177
  go_wp2_with fail
  refine (length_ascii v v0 v1 _).mono ?_
  rintro e w1 ⟨rfl, rfl⟩
  go_wp2_with (at_builtin; refine app_byte (by rfl) _ _ rfl (base := base) rfl (HO.out.alloc _) rfl (rd_one_u8x (z := w1.heap.size) rfl HN.out) (by omega) (by simp <;> omega) ?_)
  intro A4 c4 w4 ho4 hg4 hc4
  have HB4 := Lib.hid (own_below HO.out (Below.refl _ _) _ hg4 hbase)
  have HO4 := Lib.hid ho4
  clear ho4 hg4 hc4
  go_wp2
  go_ret
  have e1 : (s ++ [byt v]).length = n + 1 := by rw [List.length_append, HL.out]; rfl
  exact ⟨A4, c4, by rw [e1]; rfl, by rw [e1]; exact HO4.out, HB4.out⟩
def Let (l : List Int) : Prop := ∀ c ∈ l, 0 ≤ c ∧ c ≤ 127
set_option maxHeartbeats 1000000 in
theorem encode_ascii (A : Option Addr) (c : Nat) (l : List Int) (B : Nat) (w : World) (hr : Rd w B 1 A l.length (ints l)) (hBw : B ≤ w.heap.size) (hl : l.length ≤ 4096) (ha : Let l) :
    Calls Tryz.prog 154 #[.slice A l.length c] w fun e w' => e = .returned (.tuple #[.string (str (l.map byt)), .int .i64 0]) ∧ Below w.heap.size w w' := by
  have HR := Lib.hid hr; have HA := Lib.hid ha
  generalize hn : l.length = n at *
  have HL := Lib.hid hn
  clear hr ha hn
  go_enter Tryz.func154, Tryz.ntmps154
  go_wp2_with fail
  go_loopw [4, 12] (fun vo vi wr => ∃ (k : Nat) (A : Option Addr) (c : Nat), k ≤ n ∧ vi = .int .i64 k ∧ vo = .slice A k c ∧ wr.ownsRow w.heap.size 5 1 (.slice A k c) k (bys ((l.map byt).take k)) ∧ Below w.heap.size w wr) (fun _ vi _ => n - (intOf vi).toNat)
  case atStart => exact ⟨0, none, 0, by omega, rfl, rfl, World.ownsRow_nil _ _ _ _, Below.refl _ _⟩
  case round =>
    obtain ⟨k, A2, c2, hk, rfl, rfl, ho, hb⟩ := hrel
    have HO := Lib.hid ho; have HB := Lib.hid hb
    have hsw := hb.size
    clear ho hb
    have HTL := Lib.hid (show ((l.map byt).take k).length = k by rw [List.length_take, List.length_map, HL.out]; omega)
    by_cases hlt : k < n
    · obtain ⟨b, off, cc, rfl, hb, hat, hcell⟩ := ints_cell (HR.out.below (HB.out.mono hBw)) hlt
      obtain ⟨g0, g1⟩ := HA.out cc (List.mem_of_getElem? hat)
      have hmp : (l.map byt).take (k + 1) = (l.map byt).take k ++ [byt cc] := by
        obtain ⟨q1, q2⟩ := List.getElem?_eq_some_iff.1 hat
        rw [List.take_succ_eq_append_getElem (by rw [List.length_map]; exact q1), List.getElem_map, q2]
      have HMP := Lib.hid hmp
      have hpc := put_ascii A2 c2 ((l.map byt).take k) cc w.heap.size wr (by rw [HTL.out]; exact HO.out) hsw g0 g1 (by rw [HTL.out]; omega)
      rw [← hmp, HTL.out] at hpc
      have HPC := Lib.hid hpc
      have HTL2 := Lib.hid (show ((l.map byt).take (k + 1)).length = k + 1 by rw [List.length_take, List.length_map, HL.out]; omega)
      have hsc : 0 ≤ cc ∧ cc ≤ 127 := ⟨g0, g1⟩
      clear hmp hat hpc
      go_wp2_with fail
      refine (scalar_ascii cc g0 g1 _).mono ?_
      rintro e w3 ⟨rfl, rfl⟩
      go_wp2_with fail
      refine HPC.out.mono ?_
      rintro e w4 ⟨A4, c4, rfl, ho4, hb4⟩
      rw [HTL2.out] at ho4 ⊢
      have HO4 := Lib.hid ho4
      have HB4 := Lib.hid (HB.out.trans hb4)
      clear ho4 hb4
      go_wp2
      go_roundw
      case rel => exact ⟨k + 1, A4, c4, by omega, by go_num, rfl, HO4.out, HB4.out⟩
      case measure => simp [intOf]; omega
    · obtain rfl : k = n := by omega
      have ho := HO.out
      rw [List.take_of_length_le (by rw [List.length_map, HL.out]; omega)] at ho
      have hcv := conv_row ho
      clear ho
      go_wp2
      go_ret2
      exact ⟨rfl, HB.out⟩
end Go.Proofs.YtddieenjdaociaaGreatDoor
namespace Go.Proofs.YtddieenjdaociaaGreatDoor
open Go Go.RowKit Go.Shelf
set_option linter.unusedVariables false

theorem short_ascii (c : Int) (h0 : 0 ≤ c) (h1 : c ≤ 127) (w : World) : Calls Tryz.prog 216 #[.int .i64 c] w fun e w' => e = .returned (.bool false) ∧ w' = w := by
  go_enter Tryz.func216, Tryz.ntmps216
  go_wp2_with fail
  refine (length_ascii c h0 h1 _).mono ?_
  rintro e w1 ⟨rfl, rfl⟩
  go_wp2_with fail
  go_ret
  exact ⟨rfl, rfl⟩
set_option maxHeartbeats 1000000 in
theorem indexf_ascii (A : Option Addr) (n c : Nat) (l : List Int) (B : Nat) (w : World) (hr : Rd w B 1 A n (ints l)) (hn : n ≤ 4096) (ha : Let l) :
    Calls Tryz.prog 231 #[.slice A n c, .func (.func 216) #[] #[]] w fun e w' => e = .returned (.int .i64 (-1)) ∧ w' = w := by
  have HR := Lib.hid hr; have HA := Lib.hid ha
  clear hr ha
  go_enter Tryz.func231, Tryz.ntmps231
  go_wp2_with fail
  go_loop [8] (fun i => ∃ k : Nat, k ≤ n ∧ i = .int .i64 k) (fun i => n - (intOf i).toNat)
  case atStart => exact ⟨0, by omega, rfl⟩
  case round =>
    obtain ⟨k, hk, rfl⟩ := hrel
    by_cases hlt : k < n
    · obtain ⟨b, off, cc, rfl, hb, hat, hcell⟩ := ints_cell HR.out hlt
      obtain ⟨g0, g1⟩ := HA.out cc (List.mem_of_getElem? hat)
      clear hat
      go_wp2_with (go_at_call 216; refine (short_ascii cc g0 g1 _).mono ?_; rintro e w' ⟨rfl, rfl⟩)
      go_round
      case rel => exact ⟨k + 1, by omega, by go_num⟩
      case measure => simp [intOf]; omega
    · go_wp2
      go_ret
      exact ⟨rfl, rfl⟩
theorem contf_ascii (A : Option Addr) (n c : Nat) (l : List Int) (B : Nat) (w : World) (hr : Rd w B 1 A n (ints l)) (hn : n ≤ 4096) (ha : Let l) :
    Calls Tryz.prog 215 #[.slice A n c, .func (.func 216) #[] #[]] w fun e w' => e = .returned (.bool false) ∧ w' = w := by
  have HC := Lib.hid (indexf_ascii A n c l B w hr hn ha); clear hr ha
  go_enter Tryz.func215, Tryz.ntmps215
  go_wp2_with fail
  refine HC.out.mono ?_
  rintro e w1 ⟨rfl, rfl⟩
  go_wp2_with fail
  go_ret
  exact ⟨rfl, rfl⟩
theorem ocheck_ascii (A : Option Addr) (n c : Nat) (l : List Int) (B : Nat) (w : World) (hr : Rd w B 1 A n (ints l)) (hB : B ≤ w.heap.size) (hn : n ≤ 4096) (ha : Let l) :
    Calls Tryz.prog 188 #[t0, .slice A n c] w fun e w' => e = .returned (.int .i64 0) ∧ Below w.heap.size w w' := by
  have HR := Lib.hid hr; clear hr
  have HA := Lib.hid ha; clear ha
  go_enter Tryz.func188, Tryz.ntmps188
  go_wp2_with fail
  have hb0 := (Below.refl w.heap.size w).alloc (Nat.le_refl _) (.cells t0c 30)
  have HR0 := Lib.hid (HR.out.alloc hB (.cells t0c 30))
  refine (check_t0 _).mono ?_
  rintro e w1 ⟨rfl, hb1⟩
  have HR1 := Lib.hid (HR0.out.below (hb1.mono (by simp; omega)))
  have HB1 := Lib.hid (hb0.trans (hb1.mono (by simp)))
  clear hb0 hb1
  go_wp2_with fail
  refine (contf_ascii A n c l B _ HR1.out hn HA.out).mono ?_
  rintro e w2 ⟨rfl, rfl⟩
  go_wp2_with fail
  go_ret
  exact ⟨rfl, HB1.out⟩
set_option maxRecDepth 100000 in
set_option maxHeartbeats 2000000 in
theorem sort_ascii (A : Option Addr) (n c : Nat) (l : List Int) (B : Nat) (w : World) (hr : Rd w B 1 A n (ints l)) (hB : B ≤ w.heap.size) (hn : n ≤ 4096) :
    Calls Tryz.prog 189 #[t0, .slice A n c] w (RetI 3 l w) := by
  have hl : l.length = n := by have := hr.1; rw [ints_length] at this; omega
  have HL := Lib.hid hl
  have HR0 := Lib.hid (hr.alloc hB (.cells t0c 30)); clear hr hl
  go_enter Tryz.func189, Tryz.ntmps189
  go_wp2_with (at_builtin; refine app_int (by rfl) _ _ rfl (base := w.heap.size + 1) (xs := []) rfl (World.ownsRow_nil _ _ _ _) rfl HR0.out (by omega) (by simp) ?_)
  intro A1 c1 w1 ho1 hg1 hc1
  have hb1 : Below (w.heap.size + 1) (w.alloc (.cells t0c 30)) w1 := (Below.refl _ _).grown hg1 (by simp) (fun g h => by cases h)
  have HX := Lib.hid ((Bk.new w 30 t0c).below hb1 (by omega))
  have HO := Lib.hid ho1; have HB := Lib.hid (((Below.refl w.heap.size w).alloc (Nat.le_refl _) (.cells t0c 30)).trans (hb1.mono (by omega)))
  clear ho1 hg1 hc1 hb1
  go_wp2_with fail
  go_loopw [13] (fun vi wr => ∃ k : Nat, k ≤ n ∧ vi = .int .i64 k ∧ Below w1.heap.size w1 wr) (fun vi _ => n - (intOf vi).toNat)
  case atStart => exact ⟨0, by omega, rfl, Below.refl _ _⟩
  case round =>
    obtain ⟨k, hk, rfl, hbr⟩ := hrel
    have HR := Lib.hid hbr
    have hsr := hbr.size
    clear hbr
    by_cases hlt : k < n
    · obtain ⟨b, off, cc, rfl, hb, hat, hcell⟩ := ints_cell ((Rd.of_own HO.out).below HR.out) hlt
      obtain ⟨x0, x1, x2, x3, x4, x5, x6, x7, x8, x9, x10, x11⟩ := box_cells (HX.out.below HR.out HX.out.lt)
      clear hat
      go_wp2_with fail
      go_still_tail 5, (by kernel_rfl)
      change wpList _ _ _ _ _ wr.drew
      clear x0 x1 x2 x3 x4 x5 x6 x7 x8 x9 x10 x11 hcell
      go_wp2_with fail
      refine (class_t0 cc _).mono ?_
      rintro e w3 ⟨rfl, hb3⟩
      have HR3 := Lib.hid (HR.out.drew.trans (hb3.mono (by show w1.heap.size ≤ wr.heap.size; omega)))
      clear hb3
      go_wp2
      go_roundw
      case rel => exact ⟨k + 1, by omega, by go_num, HR3.out⟩
      case measure => simp [intOf]; omega
    · obtain rfl : k = n := by omega
      have HO2 := Lib.hid (HO.out.kept (only_below (only_refl w1 none) HR.out) (by cases (Value.slice A1 k c1).ownBlock <;> simp))
      have HB2 := Lib.hid (HB.out.trans (HR.out.mono (by have := HB.out.size; omega)))
      go_wp2
      go_ret
      exact ⟨A1, c1, by rw [HL.out]; rfl, by rw [HL.out]; exact own_low HO2.out (Nat.le_succ _), HB2.out⟩
theorem order_ascii (A : Option Addr) (n c : Nat) (l : List Int) (B : Nat) (w : World) (hr : Rd w B 1 A n (ints l)) (hB : B ≤ w.heap.size) (hn : n ≤ 4096) (ha : Let l) :
    Calls Tryz.prog 162 #[t0, .slice A n c] w (RetIs 3 l [.int .i64 0] w) := by
  have HR := Lib.hid hr; clear hr
  have HA := Lib.hid ha; clear ha
  have HX := Lib.hid (Bk.new w 30 t0c)
  have HR0 := Lib.hid (HR.out.alloc hB (.cells t0c 30))
  have HB0 := Lib.hid ((Below.refl w.heap.size w).alloc (Nat.le_refl _) (.cells t0c 30))
  go_enter Tryz.func162, Tryz.ntmps162
  go_wp2_with fail
  refine (ocheck_ascii A n c l B _ HR0.out (by simp; omega) hn HA.out).mono ?_
  rintro e w1 ⟨rfl, hb1⟩
  have HX1 := Lib.hid (HX.out.below hb1 HX.out.lt)
  have HR1 := Lib.hid (HR0.out.below (hb1.mono (by simp; omega)))
  have HB1 := Lib.hid (HB0.out.trans (hb1.mono (by simp)))
  have hs1 := hb1.size
  clear hb1
  obtain ⟨x0, x1, x2, x3, x4, x5, x6, x7, x8, x9, x10, x11⟩ := box_cells HX1.out
  go_wp2_with fail
  clear x0 x1 x2 x3 x4 x5 x6 x7 x8 x9 x10 x11
  refine (sort_ascii A n c l B _ HR1.out (by simp at hs1; omega) hn).mono ?_
  rintro e w2 ⟨A2, c2, rfl, ho2, hb2⟩
  have HO2 := Lib.hid ho2; have HB2 := Lib.hid (HB1.out.trans (hb2.mono (by simp at hs1; omega)))
  clear ho2 hb2
  go_wp2
  go_ret2
  exact ⟨A2, c2, rfl, own_low HO2.out (by simp at hs1; omega), HB2.out⟩
end Go.Proofs.YtddieenjdaociaaGreatDoor
namespace Go.Proofs.YtddieenjdaociaaGreatDoor
open Go Go.RowKit Go.Shelf
set_option linter.unusedVariables false

theorem hdec_none (c : Int) (h1 : c ≤ 127) (w : World) : Calls Tryz.prog 235 #[.int .i64 c] w fun e w' => e = .returned (.slice none 0 0) ∧ w' = w := by
  have hs : Hg.syl c = false := (Hg.syl_no c).2 (.inl (by omega))
  have hp := hparts_any c w
  rw [hs] at hp
  have HP := Lib.hid hp; clear hp hs
  go_enter Tryz.func235, Tryz.ntmps235
  go_wp2_with fail
  refine HP.out.mono ?_
  rintro e w1 ⟨rfl, rfl⟩
  go_wp2_with fail
  go_ret
  exact ⟨rfl, rfl⟩
/-- The call returns the row of numbers, longer by one; all below base is as it was. -/
def RetIn (base : Nat) (ys : List Int) (w : World) (e : Ending) (w' : World) : Prop :=
  ∃ A c, e = .returned (.slice A ys.length c) ∧ w'.ownsRow base 3 1 (.slice A ys.length c) ys.length (ints ys) ∧ Below base w w'
set_option maxRecDepth 100000 in
set_option maxHeartbeats 1000000 in
theorem expand_ascii (A : Option Addr) (c : Nat) (l : List Int) (v : Int) (base : Nat) (w : World) (ho : w.ownsRow base 3 1 (.slice A l.length c) l.length (ints l)) (hbase : base ≤ w.heap.size)
    (v0 : 0 ≤ v) (v1 : v ≤ 127) (hl : l.length ≤ 4096) : Calls Tryz.prog 222 #[t0, .slice A l.length c, .int .i64 v] w (RetIn base (l ++ [v]) w) := by
  have HX := Lib.hid (Bk.new w 30 t0c)
  have HB0 := Lib.hid ((Below.refl base w).alloc hbase (.cells t0c 30))
  have HO := Lib.hid (ho.alloc (.cells t0c 30))
  generalize hn : l.length = n at *
  have HL := Lib.hid hn
  clear ho hn
  have hnn := fun w : World => run_eql_nil_slice (P := Tryz.prog) w 28 3 none 0 0 0 0 Tryz.underlying28
  go_enter Tryz.func222, Tryz.ntmps222
  go_wp2_with fail
  refine (hdec_none v v1 _).mono ?_
  rintro e w1 ⟨rfl, rfl⟩
  go_wp2_with fail
  refine (decomp_t0 v _).mono ?_
  rintro e w2 ⟨rfl, hb2⟩
  have HO2 := Lib.hid (own_past HO.out hb2)
  have HB2 := Lib.hid (HB0.out.trans (hb2.mono (by simp; omega)))
  have hs2 := hb2.size
  clear hb2
  go_wp2_with (at_builtin; refine app_int (by rfl) _ _ rfl (base := base) rfl (HO2.out.alloc _) rfl (rd_one_int (z := w2.heap.size) rfl v) (by omega) (by simp <;> simp at hs2 <;> omega) ?_)
  intro A4 c4 w4 ho4 hg4 hc4
  have HB4 := Lib.hid (own_below HO2.out HB2.out _ hg4 (by simp at hs2; omega))
  have HO4 := Lib.hid ho4
  clear ho4 hg4 hc4
  go_wp2
  go_ret
  have e1 : (l ++ [v]).length = n + 1 := by rw [List.length_append, HL.out]; rfl
  exact ⟨A4, c4, by rw [e1]; rfl, by rw [e1]; exact HO4.out, HB4.out⟩
set_option maxRecDepth 100000 in
set_option maxHeartbeats 1000000 in
theorem dform_ascii (A : Option Addr) (n c : Nat) (l : List Int) (B : Nat) (w : World) (hr : Rd w B 1 A n (ints l)) (hB : B ≤ w.heap.size) (hn : n ≤ 4096) (ha : Let l) :
    Calls Tryz.prog 200 #[t0, .slice A n c] w (RetI 3 l w) := by
  have hl : l.length = n := by have := hr.1; rw [ints_length] at this; omega
  have HL := Lib.hid hl
  have HA := Lib.hid ha
  have HX := Lib.hid (Bk.new w 30 t0c)
  have HB0 := Lib.hid ((Below.refl w.heap.size w).alloc (Nat.le_refl _) (.cells t0c 30))
  have HR0 := Lib.hid (hr.alloc hB (.cells t0c 30)); clear hr hl ha
  go_enter Tryz.func200, Tryz.ntmps200
  go_wp2_with fail
  go_loopw [5, 10] (fun vo vi wr => ∃ (k : Nat) (A : Option Addr) (c : Nat), k ≤ n ∧ vi = .int .i64 k ∧ vo = .slice A k c ∧ wr.ownsRow (w.heap.size + 1) 3 1 (.slice A k c) k (ints (l.take k)) ∧ Below (w.heap.size + 1) (w.alloc (.cells t0c 30)) wr) (fun _ vi _ => n - (intOf vi).toNat)
  case atStart => exact ⟨0, none, 0, by omega, rfl, rfl, World.ownsRow_nil _ _ _ _, Below.refl _ _⟩
  case round =>
    obtain ⟨k, A2, c2, hk, rfl, rfl, ho, hb⟩ := hrel
    have HO := Lib.hid ho; have HB := Lib.hid hb
    have hsw := hb.size
    have HX2 := Lib.hid (HX.out.below hb (by omega))
    clear ho hb
    have HTL := Lib.hid (show (l.take k).length = k by rw [List.length_take, HL.out]; omega)
    obtain ⟨x0, x1, x2, x3, x4, x5, x6, x7, x8, x9, x10, x11⟩ := box_cells HX2.out
    by_cases hlt : k < n
    · obtain ⟨b, off, cc, rfl, hb, hat, hcell⟩ := ints_cell (HR0.out.below (HB.out.mono (by omega))) hlt
      obtain ⟨g0, g1⟩ := HA.out cc (List.mem_of_getElem? hat)
      have hmp : l.take (k + 1) = l.take k ++ [cc] := by
        obtain ⟨q1, q2⟩ := List.getElem?_eq_some_iff.1 hat
        rw [List.take_succ_eq_append_getElem q1, q2]
      have hpc := expand_ascii A2 c2 (l.take k) cc (w.heap.size + 1) wr (by rw [HTL.out]; exact HO.out) (by simp at hsw; omega) g0 g1 (by rw [HTL.out]; omega)
      rw [← hmp, HTL.out] at hpc
      have HPC := Lib.hid hpc
      have HTL2 := Lib.hid (show (l.take (k + 1)).length = k + 1 by rw [List.length_take, HL.out]; omega)
      clear hmp hat hpc
      go_wp2_with fail
      clear x0 x1 x2 x3 x4 x5 x6 x7 x8 x9 x10 x11
      refine HPC.out.mono ?_
      rintro e w4 ⟨A4, c4, rfl, ho4, hb4⟩
      rw [HTL2.out] at ho4 ⊢
      have HO4 := Lib.hid ho4
      have HB4 := Lib.hid (HB.out.trans hb4)
      clear ho4 hb4
      go_wp2
      go_roundw
      case rel => exact ⟨k + 1, A4, c4, by omega, by go_num, rfl, HO4.out, HB4.out⟩
      case measure => simp [intOf]; omega
    · obtain rfl : k = n := by omega
      have ho := HO.out
      rw [List.take_of_length_le (by rw [HL.out]; omega)] at ho
      have HO := Lib.hid ho
      clear ho
      go_wp2_with fail
      clear x0 x1 x2 x3 x4 x5 x6 x7 x8 x9 x10 x11
      refine (sort_ascii A2 k c2 l wr.heap.size wr (Rd.of_own HO.out) (Nat.le_refl _) hn).mono ?_
      rintro e w2 ⟨A5, c5, rfl, ho2, hb2⟩
      have HO2 := Lib.hid ho2; have HB2 := Lib.hid ((HB0.out.trans (HB.out.mono (by omega))).trans (hb2.mono (by simp at hsw; omega)))
      clear ho2 hb2
      go_wp2
      go_ret
      exact ⟨A5, c5, rfl, own_low HO2.out (by simp at hsw; omega), HB2.out⟩
set_option maxRecDepth 100000 in
set_option maxHeartbeats 1000000 in
theorem nfd_ascii (A : Option Addr) (n c : Nat) (l : List Int) (B : Nat) (w : World) (hr : Rd w B 1 A n (ints l)) (hB : B ≤ w.heap.size) (hn : n ≤ 4096) (ha : Let l) :
    Calls Tryz.prog 180 #[t0, .slice A n c] w (RetIs 3 l [.int .i64 0] w) := by
  have hl : l.length = n := by have := hr.1; rw [ints_length] at this; omega
  have HL := Lib.hid hl
  have HR := Lib.hid hr; clear hr hl
  have HA := Lib.hid ha; clear ha
  have HX := Lib.hid (Bk.new w 30 t0c)
  have HR0 := Lib.hid (HR.out.alloc hB (.cells t0c 30))
  have HB0 := Lib.hid ((Below.refl w.heap.size w).alloc (Nat.le_refl _) (.cells t0c 30))
  go_enter Tryz.func180, Tryz.ntmps180
  go_wp2_with fail
  refine (order_ascii A n c l B _ HR0.out (by simp; omega) hn HA.out).mono ?_
  rintro e w1 ⟨A1, c1, rfl, _, hb1⟩
  have HX1 := Lib.hid (HX.out.below hb1 HX.out.lt)
  have HR1 := Lib.hid (HR0.out.below (hb1.mono (by simp; omega)))
  have HB1 := Lib.hid (HB0.out.trans (hb1.mono (by simp)))
  have hs1 := hb1.size
  clear hb1
  obtain ⟨x0, x1, x2, x3, x4, x5, x6, x7, x8, x9, x10, x11⟩ := box_cells HX1.out
  go_wp2_with fail
  clear x0 x1 x2 x3 x4 x5 x6 x7 x8 x9 x10 x11
  refine (dform_ascii A n c l B _ HR1.out (by simp at hs1; omega) hn HA.out).mono ?_
  rintro e w2 ⟨A2, c2, rfl, ho2, hb2⟩
  rw [HL.out] at ho2 ⊢
  have HO2 := Lib.hid ho2; have HB2 := Lib.hid (HB1.out.trans (hb2.mono (by simp at hs1; omega)))
  clear ho2 hb2
  go_wp2
  go_ret2
  exact ⟨A2, c2, by rw [HL.out]; rfl, by rw [HL.out]; exact own_low HO2.out (by simp at hs1; omega), HB2.out⟩
end Go.Proofs.YtddieenjdaociaaGreatDoor
namespace Go.Proofs.YtddieenjdaociaaGreatDoor
open Go Go.RowKit Go.Shelf
set_option linter.unusedVariables false

/-- Block g is a map without entries. -/
def Mp (w : World) (g : Nat) : Prop := ∃ cl, w.heap[g]? = some (.map #[] cl)
theorem Mp.lt {w : World} {g : Nat} (h : Mp w g) : g < w.heap.size := by
  obtain ⟨cl, h⟩ := h
  exact (Array.getElem?_eq_some_iff.1 h).1
theorem Mp.below {w w' : World} {g B : Nat} (h : Mp w g) (hb : Below B w w') (hg : g < B) : Mp w' g := by
  obtain ⟨cl, h⟩ := h
  exact ⟨cl, (hb.block g hg).trans h⟩
theorem look_none {w : World} {g : Nat} (h : Mp w g) (a b : Int) : (Instr.lookup 257 (.map (some g)) (.agg #[.int .i64 a, .int .i64 b]) true).run Tryz.prog w = .ok (.tuple #[.int .i64 0, .bool false]) w := by
  obtain ⟨cl, h⟩ := h
  have hc : ∀ w, (Instr.checkKey true 10000 154 (.agg #[.int .i64 a, .int .i64 b])).run Tryz.prog w = .ok () w := fun w => by kernel_rfl
  have hz : (zeroValue 3).run Tryz.prog w = .ok (.int .i64 0) w := by kernel_rfl
  have hm : Tryz.prog.underlying 257 = some (.map 154 3) := by kernel_rfl
  simp [Instr.lookup, run_underlying hm, MapKept.run_getObj_map h, hc, Instr.findKey, run_underlying Tryz.underlying154, Instr.findNow, hz, Result.andThen]
set_option maxHeartbeats 1000000 in
theorem collect_t0 (w : World) : Calls Tryz.prog 201 #[t0] w fun e w' => ∃ g, e = .returned (.map (some g)) ∧ Mp w' g ∧ Below w.heap.size w w' := by
  have hmm := @run_makeMap Tryz.prog
  go_enter Tryz.func201, Tryz.ntmps201
  go_wp2_with fail
  refine wp_loop_rounds 1 ?_
  rw [rounds_succ]
  go_wp2_with fail
  go_ret
  refine ⟨w.heap.size + 1, by simp, ⟨0, ?_⟩, below_two _ _ _⟩
  have := heap_alloc_new (w.alloc (.cells t0c 30)) (.map #[] 0)
  simpa using this
theorem compNo (a b : Int) (ha : a ≤ 127) (hb : b ≤ 127) : Hg.compOk a b = false := by
  unfold Hg.compOk
  have h1 : Hg.lv a b = false := by
    rw [← Bool.not_eq_true, Hg.lv_iff]; omega
  have h2 : Hg.lvt a b = false := by
    rw [← Bool.not_eq_true, Hg.lvt_iff]; omega
  rw [h1, h2]; rfl
set_option maxHeartbeats 1000000 in
theorem pair_t0 (g : Nat) (a b : Int) (ha : a ≤ 127) (hb : b ≤ 127) (w : World) (hm : Mp w g) : Calls Tryz.prog 202 #[.map (some g), .int .i64 a, .int .i64 b] w fun e w' => e = .returned (.tuple #[.int .i64 0, .bool false]) ∧ w' = w := by
  have hl := look_none hm a b
  have hc := hcomp_any a b w
  rw [compNo a b ha hb] at hc
  have HC := Lib.hid hc; clear hc hm
  go_enter Tryz.func202, Tryz.ntmps202
  go_wp2_with fail
  refine HC.out.mono ?_
  rintro e w1 ⟨rfl, rfl⟩
  go_wp2_with fail
  go_ret2
  exact ⟨rfl, rfl⟩
set_option maxRecDepth 100000 in
set_option maxHeartbeats 4000000 in
theorem cform_ascii (A : Option Addr) (n c : Nat) (l : List Int) (B : Nat) (w : World) (hr : Rd w B 1 A n (ints l)) (hB : B ≤ w.heap.size) (hn : n ≤ 4096) (ha : Let l) :
    Calls Tryz.prog 181 #[t0, .slice A n c] w (RetI 3 l w) := by
  have hl : l.length = n := by have := hr.1; rw [ints_length] at this; omega
  have HL := Lib.hid hl
  have HA := Lib.hid ha
  have HX := Lib.hid (Bk.new w 30 t0c)
  have HB0 := Lib.hid ((Below.refl w.heap.size w).alloc (Nat.le_refl _) (.cells t0c 30))
  have HR0 := Lib.hid (hr.alloc hB (.cells t0c 30)); clear hr hl ha
  go_enter Tryz.func181, Tryz.ntmps181
  go_wp2_with fail
  refine (collect_t0 _).mono ?_
  rintro e w1 ⟨g, rfl, hm, hb1⟩
  have HM := Lib.hid hm
  have HX1 := Lib.hid (HX.out.below hb1 HX.out.lt)
  have HR1 := Lib.hid (HR0.out.below (hb1.mono (by simp; omega)))
  have HB1 := Lib.hid (HB0.out.trans (hb1.mono (by simp)))
  have hs1 : w.heap.size + 1 ≤ w1.heap.size := by have := hb1.size; simp at this; omega
  clear hm hb1 HX HR0 HB0
  go_wp2_with fail
  go_loopw [6, 7, 20] (fun vo vs vi wr => ∃ (k : Nat) (A : Option Addr) (c : Nat), k ≤ n ∧ vi = .int .i64 k ∧ vs = .int .i64 ((k : Int) - 1) ∧ vo = .slice A k c ∧ wr.ownsRow w1.heap.size 3 1 (.slice A k c) k (ints (l.take k)) ∧ Below w1.heap.size w1 wr) (fun _ _ vi _ => n - (intOf vi).toNat)
  case atStart => exact ⟨0, none, 0, by omega, rfl, rfl, rfl, World.ownsRow_nil _ _ _ _, Below.refl _ _⟩
  case round =>
    obtain ⟨k, A2, c2, hk, rfl, rfl, rfl, ho, hb⟩ := hrel
    have HO := Lib.hid ho; have HB := Lib.hid hb
    have hsw := hb.size
    have HX2 := Lib.hid (HX1.out.below hb HX1.out.lt)
    have HM2 := Lib.hid (HM.out.below hb HM.out.lt)
    clear ho hb
    by_cases hlt : k < n
    · obtain ⟨b, off, cc, rfl, hb, hat, hcell⟩ := ints_cell (HR1.out.below (HB.out.mono (by omega))) hlt
      obtain ⟨g0, g1⟩ := HA.out cc (List.mem_of_getElem? hat)
      have hmp : l.take (k + 1) = l.take k ++ [cc] := by
        obtain ⟨q1, q2⟩ := List.getElem?_eq_some_iff.1 hat
        rw [List.take_succ_eq_append_getElem q1, q2]
      have HMP := Lib.hid hmp
      clear hmp hat
      obtain ⟨x0, x1, x2, x3, x4, x5, x6, x7, x8, x9, x10, x11⟩ := box_cells HX2.out
      go_wp2_with fail
      clear x0 x1 x2 x3 x4 x5 x6 x7 x8 x9 x10 x11 hcell
      refine (class_t0 cc _).mono ?_
      rintro e w3 ⟨rfl, hb3⟩
      have HO3 := Lib.hid (own_past HO.out hb3)
      have HB3 := Lib.hid (HB.out.trans (hb3.mono (by omega)))
      have HM3 := Lib.hid (HM2.out.below hb3 HM2.out.lt)
      have hs3 := hb3.size
      clear hb3
      by_cases h0 : k = 0
      · subst h0
        go_wp2_with (at_builtin; refine app_int (by rfl) _ _ rfl (base := w1.heap.size) rfl (HO3.out.alloc _) rfl (rd_one_int (z := w3.heap.size) rfl cc) (by omega) (by simp <;> omega) ?_)
        intro A4 c4 w4 ho4 hg4 hc4
        have HB4 := Lib.hid (own_below HO3.out HB3.out _ hg4 (by omega))
        have HO4 := Lib.hid (show w4.ownsRow w1.heap.size 3 1 (.slice A4 1 c4) 1 (ints (l.take (0 + 1))) by rw [HMP.out]; exact ho4)
        clear ho4 hg4 hc4
        go_wp2
        go_roundw
        case rel => exact ⟨1, A4, c4, by omega, by go_num, by go_num, rfl, HO4.out, HB4.out⟩
        case measure => simp [intOf]; omega
      · obtain ⟨j, rfl⟩ : ∃ j, k = j + 1 := ⟨k - 1, by omega⟩
        obtain ⟨b5, off5, c5, hA5, hb5, hat5, hcell5⟩ := ints_cell (Rd.of_own HO3.out) (show j < j + 1 by omega)
        subst hA5
        have hle : c5 ≤ 127 := by
          have := List.mem_of_getElem? hat5
          exact (HA.out c5 (List.mem_of_mem_take this)).2
        have hjj : ((j + 1 : Nat) : Int) - 1 = (j : Int) := by omega
        rw [hjj]
        clear hat5 hjj
        go_wp2_with fail
        refine (pair_t0 g c5 cc hle g1 _ HM3.out).mono ?_
        rintro e w6 ⟨rfl, rfl⟩
        clear hcell5
        go_wp2_with (at_builtin; refine app_int (by rfl) _ _ rfl (base := w1.heap.size) rfl (HO3.out.alloc _) rfl (rd_one_int (z := w6.heap.size) rfl cc) (by omega) (by simp <;> omega) ?_)
        intro A4 c4 w4 ho4 hg4 hc4
        have HB4 := Lib.hid (own_below HO3.out HB3.out _ hg4 (by omega))
        have HO4 := Lib.hid (show w4.ownsRow w1.heap.size 3 1 (.slice A4 (j + 1 + 1) c4) (j + 1 + 1) (ints (l.take (j + 1 + 1))) by rw [HMP.out]; exact ho4)
        clear ho4 hg4 hc4
        go_wp2
        go_roundw
        case rel => exact ⟨j + 1 + 1, A4, c4, by omega, by go_num, by go_num, rfl, HO4.out, HB4.out⟩
        case measure => simp [intOf]; omega
    · obtain rfl : k = n := by omega
      have ho := HO.out
      rw [List.take_of_length_le (by rw [HL.out]; omega)] at ho
      have HO := Lib.hid ho
      clear ho
      go_wp2
      go_ret
      exact ⟨A2, c2, by rw [HL.out]; rfl, by rw [HL.out]; exact own_low HO.out (by omega), HB1.out.trans (HB.out.mono (by omega))⟩
end Go.Proofs.YtddieenjdaociaaGreatDoor
