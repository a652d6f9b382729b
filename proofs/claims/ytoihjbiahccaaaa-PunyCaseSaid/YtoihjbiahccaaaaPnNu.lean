/- The walk of puny.number. -/
import Derived.Test.YtoihjbiahccaaaaPnEn
namespace Go.Proofs.Ytoihjbiahccaaaa
open Go Go.RowKit
set_option linter.unusedVariables false

/-- The bytes of a string. -/
def lst (s : ByteArray) : List UInt8 := s.data.toList
theorem str_lst (s : ByteArray) : str (lst s) = s := by cases s; rfl
theorem lst_str (l : List UInt8) : lst (str l) = l := rfl
theorem lst_length (s : ByteArray) : (lst s).length = s.size := rfl
theorem str_size (l : List UInt8) : (str l).size = l.length := rfl
theorem lst_at (s : ByteArray) (j : Nat) (h : j < s.size) : (lst s)[j]? = some s[j] := by
  unfold lst
  rw [Array.getElem?_toList, Array.getElem?_eq_getElem (show j < s.data.size from h)]; rfl
theorem lst_drop (s : ByteArray) (j : Nat) (h : j < s.size) : (lst s).drop j = s[j] :: (lst s).drop (j + 1) := by
  have h1 := lst_at s j h
  obtain ⟨h2, h3⟩ := List.getElem?_eq_some_iff.1 h1
  rw [List.drop_eq_getElem_cons h2, h3]
theorem extract_drop (s : ByteArray) (k : Nat) (h : k ≤ s.size) : s.extract k s.size = str ((lst s).drop k) := by
  apply ByteArray.ext
  rw [ByteArray.data_extract]
  apply Array.toList_inj.1
  rw [Array.toList_extract]
  show (s.data.toList.drop k).take (s.size - k) = s.data.toList.drop k
  apply List.take_of_length_le
  rw [List.length_drop]; exact Nat.le_refl _
theorem extract_take (s : ByteArray) (k : Nat) (h : k ≤ s.size) : s.extract 0 k = str ((lst s).take k) := by
  apply ByteArray.ext
  rw [ByteArray.data_extract]
  apply Array.toList_inj.1
  rw [Array.toList_extract]
  show (s.data.toList.drop 0).take (k - 0) = s.data.toList.take k
  rfl
def numRet : Option (Int × List UInt8) → Value
  | none => .tuple #[.int .i64 0, .string ByteArray.empty, .bool false]
  | some (v, r) => .tuple #[.int .i64 v, .string (str r), .bool true]
set_option maxRecDepth 100000 in
set_option maxHeartbeats 4000000 in
theorem number_any (s : ByteArray) (b : Int) (b0 : 0 ≤ b) (b1 : b ≤ 1000) (hs : s.size ≤ 1000000) (w : World) :
    Calls Try.prog 45 #[.string s, .int .i64 b] w fun e w' => e = .returned (numRet (Pn.rd (lst s) 0 0 1 b)) ∧ ∃ q, w' = w.drewN q := by
  go_enter Try.func45, Try.ntmps45
  go_wp2_with fail
  go_loopw [7, 8, 9] (fun vv vw vj wr => ∃ (x y : Int) (j : Nat), vv = .int .i64 x ∧ vw = .int .i64 y ∧ vj = .int .i64 j ∧ j ≤ s.size ∧ 0 ≤ x ∧ x ≤ 2147483648 ∧ 0 ≤ y ∧ y ≤ 2147483648 ∧
      Pn.rd ((lst s).drop j) (j : Int) x y b = Pn.rd (lst s) 0 0 1 b ∧ w = wr) (fun _ _ vj _ => s.size - (intOf vj).toNat)
  case atStart => exact ⟨0, 1, 0, rfl, rfl, rfl, by omega, by omega, by omega, by omega, by omega, by simp, rfl⟩
  case round =>
    obtain ⟨x, y, j, rfl, rfl, rfl, hj, x0, x1, y0, y1, hrd, rfl⟩ := hrel
    have HRD := Lib.hid hrd; clear hrd
    by_cases hlt : j < s.size
    · have hdr := lst_drop s j hlt
      have HDR := Lib.hid hdr; clear hdr
      go_wp2_with fail
      refine (value_any s[j] _).mono ?_
      rintro e w1 ⟨rfl, hw1⟩
      subst hw1
      cases hd : Pn.dval s[j] with
      | none =>
        have hbad := Pn.rd_bad hd ((lst s).drop (j + 1)) (j : Int) x y b
        have HBAD := Lib.hid hbad; clear hbad hd
        go_wp2
        go_ret3
        refine ⟨?_, 0, rfl⟩
        rw [← HRD.out, HDR.out, HBAD.out]; rfl
      | some d =>
        obtain ⟨g0, g1⟩ := Pn.dval_bd hd
        have hlast := Pn.rd_last hd ((lst s).drop (j + 1)) (j : Int) x y b
        have hmore := Pn.rd_more hd ((lst s).drop (j + 1)) (j : Int) x y b
        clear hd
        have m0 : 0 ≤ d * y := Int.mul_nonneg g0 y0
        have m1 : d * y ≤ 35 * 2147483648 := Int.mul_le_mul g1 y1 y0 (by omega)
        have t0 := Pn.thr_lo (j : Int) b
        have t1 := Pn.thr_hi (j : Int) b
        have k0 : 0 ≤ y * (36 - Pn.thr (j : Int) b) := Int.mul_nonneg y0 (by omega)
        have k1 : y * (36 - Pn.thr (j : Int) b) ≤ 2147483648 * 35 := Int.mul_le_mul y1 (by omega) (by omega) (by omega)
        have HTH := Lib.hid (fun w => thr_any (j : Int) b (by omega) (by omega) b0 (by omega) w)
        generalize Pn.thr (j : Int) b = t at *
        have hmn := @run_min2 Try.prog
        have hcap : Pn.cap (x + d * y) = min (x + d * y) 2147483648 := rfl
        have HCAP := Lib.hid hcap; clear hcap
        have HEX := Lib.hid (extract_drop s (j + 1) (by omega))
        go_wp2_with fail
        refine (HTH.out _).mono ?_
        rintro e w1 ⟨rfl, hw1⟩
        subst hw1
        by_cases hc : d < t
        · have HL := Lib.hid (hlast hc)
          clear hlast hmore
          have z1 : IntKind.i64.wrap ((j : Int) + 1) = (j : Int) + 1 := IntWalk.i64_in _ (by omega)
          have z2 : ((j : Int) + 1).toNat = j + 1 := by omega
          have z3 : (0 : Int) ≤ (j : Int) + 1 := by omega
          have z4 : j + 1 ≤ s.size := by omega
          go_wp2_with fail
          go_quiet (fail)
          clear z1 z2 z3
          go_wp2
          go_ret3
          refine ⟨?_, _, rfl⟩
          rw [← HRD.out, HDR.out, HL.out, HCAP.out]
          show _ = Ending.returned (.tuple #[.int .i64 (min (x + d * y) 2147483648), .string (str ((lst s).drop (j + 1))), .bool true])
          rw [← HEX.out]
          rfl
        · have HL := Lib.hid (hmore (by omega))
          have hcap2 : Pn.cap (y * (36 - t)) = min (y * (36 - t)) 2147483648 := rfl
          have HCAP2 := Lib.hid hcap2; clear hcap2
          clear hlast hmore
          go_wp2
          go_roundw
          case rel => exact ⟨min (x + d * y) 2147483648, min (y * (36 - t)) 2147483648, j + 1, rfl, rfl, by go_num, by omega, by omega, by omega, by omega, by omega, by rw [← HRD.out, HDR.out, HL.out, HCAP.out, HCAP2.out]; rfl, trivial⟩
          case measure => simp [intOf]; omega
    · have hd : (lst s).drop j = [] := List.drop_of_length_le (by rw [lst_length]; omega)
      have HD := Lib.hid hd; clear hd
      go_wp2
      go_ret3
      refine ⟨?_, 0, rfl⟩
      rw [← HRD.out, HD.out]; rfl
end Go.Proofs.Ytoihjbiahccaaaa
