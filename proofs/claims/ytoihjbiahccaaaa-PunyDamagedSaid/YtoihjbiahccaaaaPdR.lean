/- The walk of the reference's read: a number, read at a place of a string. -/
import Derived.Test.YtoihjbiahccaaaaPnNu
namespace Go.Proofs.Ytoihjbiahccaaaa
open Go Go.RowKit
set_option linter.unusedVariables false

def rdRet (z : Nat) : Option (Int × List UInt8) → Value
  | none => .tuple #[.int .i64 0, .int .i64 0, .bool false]
  | some (v, r) => .tuple #[.int .i64 v, .int .i64 ((z - r.length : Nat) : Int), .bool true]
set_option maxRecDepth 100000 in
set_option maxHeartbeats 4000000 in
theorem rread_any (s : ByteArray) (k : Nat) (b : Int) (b0 : 0 ≤ b) (b1 : b ≤ 1000) (hs : s.size ≤ 1000000) (hk : k ≤ s.size) (w : World) :
    Calls Try.prog 53 #[.string s, .int .i64 (k : Int), .int .i64 b] w fun e w' => e = .returned (rdRet s.size (Pn.rd ((lst s).drop k) 0 0 1 b)) ∧ w = w' := by
  go_enter Try.func53, Try.ntmps53
  go_wp2_with fail
  go_loopw [1, 9, 10, 11] (fun vi vv vw vj wr => ∃ (x y : Int) (j i : Nat), vv = .int .i64 x ∧ vw = .int .i64 y ∧ vj = .int .i64 j ∧ vi = .int .i64 i ∧ i = k + j ∧ i ≤ s.size ∧ 0 ≤ x ∧ x ≤ 2147483648 ∧ 0 ≤ y ∧ y ≤ 2147483648 ∧
      Pn.rd ((lst s).drop i) (j : Int) x y b = Pn.rd ((lst s).drop k) 0 0 1 b ∧ w = wr) (fun vi _ _ _ _ => s.size - (intOf vi).toNat)
  case atStart => exact ⟨0, 1, 0, k, rfl, rfl, rfl, rfl, rfl, hk, by omega, by omega, by omega, by omega, rfl, rfl⟩
  case round =>
    obtain ⟨x, y, j, i, rfl, rfl, rfl, rfl, hij, hi, x0, x1, y0, y1, hrd, rfl⟩ := hrel
    have hj : j ≤ s.size := by omega
    have HRD := Lib.hid hrd; have HIJ := Lib.hid hij; clear hrd hij
    by_cases hlt : i < s.size
    · have hdr := lst_drop s i hlt
      have HDR := Lib.hid hdr; clear hdr
      go_wp2_with fail
      refine (rvalue_any s[i] _).mono ?_
      rintro e w1 ⟨rfl, hw1⟩
      subst hw1
      cases hd : Pn.dval s[i] with
      | none =>
        have hbad := Pn.rd_bad hd ((lst s).drop (i + 1)) (j : Int) x y b
        have HBAD := Lib.hid hbad; clear hbad hd
        rw [show (none : Option Int).getD (-1) = -1 from rfl]
        go_wp2
        go_ret3
        refine ⟨?_, rfl⟩
        rw [← HRD.out, HDR.out, HBAD.out]; rfl
      | some d =>
        obtain ⟨g0, g1⟩ := Pn.dval_bd hd
        have hlast := Pn.rd_last hd ((lst s).drop (i + 1)) (j : Int) x y b
        have hmore := Pn.rd_more hd ((lst s).drop (i + 1)) (j : Int) x y b
        clear hd
        rw [show (some d).getD (-1) = d from rfl]
        have m0 : 0 ≤ d * y := Int.mul_nonneg g0 y0
        have m1 : d * y ≤ 35 * 2147483648 := Int.mul_le_mul g1 y1 y0 (by omega)
        have t0 := Pn.thr_lo (j : Int) b
        have t1 := Pn.thr_hi (j : Int) b
        have k0 : 0 ≤ y * (36 - Pn.thr (j : Int) b) := Int.mul_nonneg y0 (by omega)
        have k1 : y * (36 - Pn.thr (j : Int) b) ≤ 2147483648 * 35 := Int.mul_le_mul y1 (by omega) (by omega) (by omega)
        have HTH := Lib.hid (fun w => rthr_any (j : Int) b (by omega) (by omega) b0 (by omega) w)
        generalize Pn.thr (j : Int) b = t at *
        have hmn := @run_min2 Try.prog
        have hcap : Pn.cap (x + d * y) = min 2147483648 (x + d * y) := by show min (x + d * y) 2147483648 = _; omega
        have HCAP := Lib.hid hcap; clear hcap
        go_wp2_with fail
        refine (HTH.out _).mono ?_
        rintro e w1 ⟨rfl, hw1⟩
        subst hw1
        by_cases hc : d < t
        · have HL := Lib.hid (hlast hc)
          clear hlast hmore
          go_wp2
          go_ret3
          refine ⟨?_, rfl⟩
          rw [← HRD.out, HDR.out, HL.out, HCAP.out]
          show _ = Ending.returned (.tuple #[.int .i64 (min 2147483648 (x + d * y)), .int .i64 ((s.size - ((lst s).drop (i + 1)).length : Nat) : Int), .bool true])
          have hl : s.size - ((lst s).drop (i + 1)).length = i + 1 := by rw [List.length_drop, lst_length]; omega
          rw [hl]
          have hc2 : ((i + 1 : Nat) : Int) = (i : Int) + 1 := by omega
          rw [hc2]
          first | rfl | (simp; done)
        · have HL := Lib.hid (hmore (by omega))
          have hcap2 : Pn.cap (y * (36 - t)) = min 2147483648 (y * (36 - t)) := by show min (y * (36 - t)) 2147483648 = _; omega
          have HCAP2 := Lib.hid hcap2; clear hcap2
          clear hlast hmore
          go_wp2
          go_roundw
          case rel => exact ⟨min 2147483648 (x + d * y), min 2147483648 (y * (36 - t)), j + 1, i + 1, rfl, rfl, by go_num, by go_num, by have := HIJ.out; omega, by omega, by omega, by omega, by omega, by omega, by rw [← HRD.out, HDR.out, HL.out, HCAP.out, HCAP2.out]; rfl, trivial⟩
          case measure => simp [intOf]; omega
    · have hd : (lst s).drop i = [] := List.drop_of_length_le (by rw [lst_length]; omega)
      have HD := Lib.hid hd; clear hd
      go_wp2
      go_ret3
      refine ⟨?_, rfl⟩
      rw [← HRD.out, HD.out]; rfl
end Go.Proofs.Ytoihjbiahccaaaa
