/- The walks of the law's example on labels, of the reference's Lower and ASCII, and of the law AlabelLower. -/
import Derived.Test.YtoihjbiahccaaaaAlDec
namespace Go.Proofs.Ytoihjbiahccaaaa
open Go Go.RowKit
set_option linter.unusedVariables false

set_option maxHeartbeats 4000000 in
theorem awake11_any (w : World) : Calls Try.prog 29 #[] w fun e w' => e = .returned (.bool true) ∧ Below w.heap.size w w' := by
  have hL := rd_lit (w := w) (e := 3) (xs := [98, 252, 99, 104, 101, 114]) (n := 6) #[.int .i64 98, .int .i64 252, .int .i64 99, .int .i64 104, .int .i64 101, .int .i64 114] rfl rfl
  have e1 : Al.lab [98, 252, 99, 104, 101, 114] = ([120, 110, 45, 45, 98, 99, 104, 101, 114, 45, 107, 118, 97], 0) := by decide +kernel
  have e2 : Al.pts [120, 110, 45, 45, 97, 98, 99, 45] = ([], 12) := by decide +kernel
  have e3 : Al.isX [88, 78, 45, 45, 97] = true := by decide +kernel
  have HL := Lib.hid hL; have HE1 := Lib.hid e1; have HE2 := Lib.hid e2; have HE3 := Lib.hid e3
  have HB := Lib.hid ((Below.refl w.heap.size w).alloc (Nat.le_refl _) (.cells #[.int .i64 98, .int .i64 252, .int .i64 99, .int .i64 104, .int .i64 101, .int .i64 114] 3))
  clear hL e1 e2 e3
  go_enter Try.func29, Try.ntmps29
  go_wp2_with fail
  have hct := label_any (some ⟨w.heap.size, 0, none⟩) 6 [98, 252, 99, 104, 101, 114] (w.heap.size + 1) _ HL.out (by simp) (by simp)
  rw [HE1.out] at hct
  refine hct.mono ?_
  clear hct
  rintro e w1 ⟨rfl, hb⟩
  have hsz1 : w.heap.size ≤ w1.heap.size := by have := hb.size; simp at this; omega
  replace HB := Lib.hid (HB.out.trans (hb.mono (by simp)))
  clear hb
  have hstr : str [120, 110, 45, 45, 98, 99, 104, 101, 114, 45, 107, 118, 97] = (⟨#[120, 110, 45, 45, 98, 99, 104, 101, 114, 45, 107, 118, 97]⟩ : ByteArray) := rfl
  rw [hstr]
  clear hstr
  go_wp2_with fail
  have hct := pts_any (⟨#[120, 110, 45, 45, 97, 98, 99, 45]⟩ : ByteArray) (by decide) w1
  rw [show lst (⟨#[120, 110, 45, 45, 97, 98, 99, 45]⟩ : ByteArray) = [120, 110, 45, 45, 97, 98, 99, 45] from rfl, HE2.out] at hct
  refine hct.mono ?_
  clear hct
  rintro e w2 ⟨A2, c2, rfl, _, hb⟩
  have hsz2 := hb.size
  replace HB := Lib.hid (HB.out.trans (hb.mono hsz1))
  clear hb
  go_wp2_with fail
  have hct := is_any (⟨#[88, 78, 45, 45, 97]⟩ : ByteArray) (by decide) w2
  rw [show lst (⟨#[88, 78, 45, 45, 97]⟩ : ByteArray) = [88, 78, 45, 45, 97] from rfl, HE3.out] at hct
  refine hct.mono ?_
  clear hct
  rintro e w3 ⟨rfl, hb⟩
  replace HB := Lib.hid (HB.out.trans (hb.mono (by omega)))
  clear hb
  go_wp2
  go_ret
  exact ⟨rfl, HB.out⟩
theorem conv_one (w : World) (b : UInt8) (x : Int) (hx : (b.toNat : Int) = x) : (convert 38 9 (.slice (some ⟨w.heap.size, 0, none⟩) 1 1)).run Try.prog (w.alloc (.cells #[.int .u8 x] 5)) = .ok (.string (str [b])) (w.alloc (.cells #[.int .u8 x] 5)) := by
  subst hx
  exact run_convert_bytes_back (P := Try.prog) (w.alloc (.cells #[.int .u8 (b.toNat : Int)] 5)) 38 9 5 ⟨w.heap.size, 0, none⟩ 1 [b] Try.underlying38 Try.underlying5 Try.underlying9 (fun j hj => by
    have : j = 0 := by simp at hj; exact hj
    subst this
    rw [addp, (Bk.new w 5 _).cell]; rfl)
theorem low_succ {L : List UInt8} {k : Nat} {b : UInt8} (h : L[k]? = some b) : Al.low (L.take (k + 1)) = Al.low (L.take k) ++ [Al.lb b] := by
  obtain ⟨h1, h2⟩ := List.getElem?_eq_some_iff.1 h
  rw [List.take_succ_eq_append_getElem h1, h2]; simp [Al.low]
set_option maxHeartbeats 4000000 in
theorem rlower_any (s : ByteArray) (hs : s.size ≤ maxLen) (w : World) : Calls Try.prog 33 #[.string s] w fun e w' => e = .returned (.string (str (Al.low (lst s)))) ∧ Below w.heap.size w w' := by
  unfold maxLen at hs
  go_enter Try.func33, Try.ntmps33
  go_wp2_with fail
  go_loopw [3, 4] (fun vo i wr => ∃ (k : Nat) (M : List UInt8), k ≤ s.size ∧ i = .int .i64 k ∧ vo = .string (str M) ∧ M = Al.low ((lst s).take k) ∧ Below w.heap.size w wr) (fun _ i _ => s.size - (intOf i).toNat)
  case atStart => exact ⟨0, [], by omega, rfl, rfl, rfl, Below.refl _ _⟩
  case round =>
    obtain ⟨k, M, hk, rfl, rfl, hM, hb⟩ := hrel
    have HM := Lib.hid hM; have HB := Lib.hid hb
    have hsw := hb.size
    clear hM hb
    by_cases hlt : k < s.size
    · have hat := lst_at s k hlt
      have hki : (k : Int) < (s.size : Int) := by omega
      have hls := low_succ hat
      rw [← HM.out] at hls
      have hml : M.length = k := by rw [HM.out, Al.low_len, List.length_take, lst_length]; omega
      have hap := str_append M [Al.lb s[k]]
      have hs1 : (str M).size ≤ 9223372036854775806 := by rw [str_size]; omega
      have hs2 : (str [Al.lb s[k]]).size = 1 := rfl
      have hs3 : (str (M ++ [Al.lb s[k]])).size ≤ 9223372036854775807 := by rw [str_size, List.length_append, hml]; show k + 1 ≤ _; omega
      have hb256 := (s[k]).toNat_lt
      have hbig : (65 ≤ (s[k]).toNat ∧ (s[k]).toNat ≤ 90) ∨ ¬ (65 ≤ (s[k]).toNat ∧ (s[k]).toNat ≤ 90) := Classical.em _
      have hlb1 := @Al.lb_big s[k]
      have hlb2 := @Al.lb_else s[k]
      generalize Al.lb s[k] = y at *
      have HLS := Lib.hid hls
      clear hls hat hml
      rcases hbig with hbig | hbig
      · have hl := hlb1 hbig
        have g3 : (65 : Int) ≤ ((s[k]).toNat : Int) := by omega
        have g4 : ((s[k]).toNat : Int) ≤ 90 := by omega
        have hcv := conv_one wr y (((s[k]).toNat : Int) + 32) (by omega)
        have HB2 := Lib.hid (HB.out.alloc hsw (.cells #[.int .u8 (((s[k]).toNat : Int) + 32)] 5))
        clear hlb1 hlb2 hbig hl hb256
        go_wp2
        go_roundw
        case rel => exact ⟨k + 1, M ++ [y], by omega, by go_num, rfl, HLS.out.symm, HB2.out⟩
        case measure => simp [intOf]; omega
      · have hl := hlb2 hbig
        have hb2 : ((s[k]).toNat : Int) < 65 ∨ (65 ≤ ((s[k]).toNat : Int) ∧ 90 < ((s[k]).toNat : Int)) := by omega
        have hcv := conv_one wr y ((s[k]).toNat : Int) (by rw [hl])
        have HB2 := Lib.hid (HB.out.alloc hsw (.cells #[.int .u8 ((s[k]).toNat : Int)] 5))
        clear hlb1 hlb2 hbig hl hb256
        rcases hb2 with hb2 | ⟨hb2, hb3⟩
        all_goals
          go_wp2
          go_roundw
          case rel => exact ⟨k + 1, M ++ [y], by omega, by go_num, rfl, HLS.out.symm, HB2.out⟩
          case measure => simp [intOf]; omega
    · have hkn : k = s.size := by omega
      have hfin : M = Al.low (lst s) := by rw [HM.out, hkn, List.take_of_length_le (by rw [lst_length]; exact Nat.le_refl _)]
      have HF := Lib.hid hfin; clear hfin
      go_wp2
      go_ret
      exact ⟨by rw [← HF.out]; rfl, HB.out⟩
end Go.Proofs.Ytoihjbiahccaaaa
