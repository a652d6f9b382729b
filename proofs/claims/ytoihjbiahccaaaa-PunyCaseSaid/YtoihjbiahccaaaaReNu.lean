/- The walk of the reference's number: a number's digits, written. -/
import Derived.Test.YtoihjbiahccaaaaAlAw
namespace Go.Proofs.Ytoihjbiahccaaaa
open Go Go.RowKit
set_option linter.unusedVariables false

set_option maxHeartbeats 4000000 in
theorem rnumber_any (v b : Int) (v0 : 0 ≤ v) (v1 : v ≤ 1099511627776) (b0 : 0 ≤ b) (b1 : b ≤ 1000) (w : World) :
    Calls Try.prog 40 #[.int .i64 v, .int .i64 b] w fun e w' => e = .returned (.string (str ((Pn.dig v b).map Pn.dgt))) ∧ w = w' := by
  obtain ⟨V, rfl⟩ := Int.eq_ofNat_of_zero_le v0
  have hd := Pn.dig_eq (V : Int) b
  have HD := Lib.hid hd; clear hd
  go_enter Try.func40, Try.ntmps40
  go_wp2_with fail
  go_loopw [0, 5, 6] (fun vv vo vj wr => ∃ (pre : List Int) (P : List UInt8) (x j : Nat), vo = .string (str P) ∧ P = pre.map Pn.dgt ∧ vv = .int .i64 x ∧ vj = .int .i64 j ∧ j + x ≤ V ∧ P.length = j ∧
      Pn.dig (V : Int) b = pre ++ Pn.digJ (x : Int) (j : Int) b ∧ w = wr) (fun vv _ _ _ => (intOf vv).toNat)
  case atStart => exact ⟨[], [], V, 0, rfl, rfl, rfl, rfl, by omega, rfl, HD.out, rfl⟩
  case round =>
    obtain ⟨pre, P, x, j, rfl, hP, rfl, rfl, hjx, hlen, hdig, rfl⟩ := hrel
    have HDG := Lib.hid hdig; have HLN := Lib.hid hlen; have HP := Lib.hid hP
    have hps : (str P).size = j := by rw [str_size]; exact hlen
    clear hdig hlen hP HD
    go_wp2_with fail
    refine (rthr_any (j : Int) b (by omega) (by omega) b0 (by omega) _).mono ?_
    rintro e w9 ⟨rfl, hw9⟩
    subst hw9
    have t0 := Pn.thr_lo (j : Int) b
    have t1 := Pn.thr_hi (j : Int) b
    have hlast := Pn.digJ_last (x : Int) (j : Int) b
    have hstep := Pn.digJ_step (x : Int) (j : Int) b (by omega)
    have hslt := Pn.step_lt (x : Int) (Pn.thr (j : Int) b) (by omega) t0 t1
    generalize Pn.thr (j : Int) b = t at *
    by_cases hc : (x : Int) < t
    · have hlast := hlast hc
      have HLS := Lib.hid hlast
      clear hlast hstep hslt
      have hap : str P ++ (⟨#[Pn.dgt (x : Int)]⟩ : ByteArray) = str (P ++ [Pn.dgt (x : Int)]) := str_append P [Pn.dgt (x : Int)]
      have hds : (⟨#[Pn.dgt (x : Int)]⟩ : ByteArray).size = 1 := rfl
      have has : (str (P ++ [Pn.dgt (x : Int)])).size ≤ 9223372036854775807 := by rw [str_size, List.length_append, HLN.out]; show j + 1 ≤ _; omega
      go_wp2_with fail
      refine (rdigit_any x (by omega) _).mono ?_
      rintro e w9 ⟨rfl, hw9⟩
      subst hw9
      have hfin : str ((Pn.dig (V : Int) b).map Pn.dgt) = str (P ++ [Pn.dgt (x : Int)]) := by rw [HDG.out, HLS.out, HP.out]; simp
      have HF := Lib.hid hfin
      clear hfin
      go_wp2
      go_ret
      exact ⟨by rw [HF.out]; rfl, rfl⟩
    · have hstep := hstep hc
      obtain ⟨s0, s1⟩ := hslt hc
      have hm0 := Int.emod_nonneg ((x : Int) - t) (show 36 - t ≠ 0 by omega)
      have hm1 := Int.emod_lt_of_pos ((x : Int) - t) (show 0 < 36 - t by omega)
      obtain ⟨d, hd⟩ : ∃ d : Nat, t + ((x : Int) - t) % (36 - t) = (d : Int) := ⟨(t + ((x : Int) - t) % (36 - t)).toNat, by omega⟩
      obtain ⟨y, hy⟩ : ∃ y : Nat, ((x : Int) - t) / (36 - t) = (y : Int) := ⟨(((x : Int) - t) / (36 - t)).toNat, by omega⟩
      have hd36 : d < 36 := by omega
      have hyx : (y : Int) < (x : Int) := by omega
      rw [hd, hy] at hstep
      have HST := Lib.hid hstep; have HD2 := Lib.hid hd; have HY := Lib.hid hy
      clear hstep hd hy hlast hslt s0 s1
      have ht36 : ¬ 36 - t = 0 := by omega
      have hxt : 0 ≤ (x : Int) - t := by omega
      have hap : str P ++ (⟨#[Pn.dgt (d : Int)]⟩ : ByteArray) = str (P ++ [Pn.dgt (d : Int)]) := str_append P [Pn.dgt (d : Int)]
      have hds : (⟨#[Pn.dgt (d : Int)]⟩ : ByteArray).size = 1 := rfl
      have has : (str (P ++ [Pn.dgt (d : Int)])).size ≤ 9223372036854775807 := by rw [str_size, List.length_append, HLN.out]; show j + 1 ≤ _; omega
      go_wp2_with fail
      rw [HD2.out]
      refine (rdigit_any d hd36 _).mono ?_
      rintro e w9 ⟨rfl, hw9⟩
      subst hw9
      go_wp2
      rw [HY.out]
      go_roundw
      case rel => exact ⟨pre ++ [(d : Int)], P ++ [Pn.dgt (d : Int)], y, j + 1, rfl, by rw [HP.out]; simp, rfl, by go_num, by omega, by rw [List.length_append, HLN.out]; rfl, by rw [HDG.out, HST.out]; simp, by trivial⟩
      case measure => simp [intOf]; omega
end Go.Proofs.Ytoihjbiahccaaaa
