/- The walk of the law AlabelLower. -/
import Derived.Test.YtoihjbiahccaaaaAlAw
namespace Go.Proofs.Ytoihjbiahccaaaa
open Go Go.RowKit
set_option linter.unusedVariables false

theorem beq_str (M : List UInt8) : ((str M).toList == (str M).toList) = true := by simp
set_option maxHeartbeats 4000000 in
theorem walk_AlabelLower (s : ByteArray) (w : World) (hs : s.size ≤ maxLen) :
    Calls Try.prog 15 #[.string s] w fun e w' => e = .returned (.bool true) ∧ Below w.heap.size w w' := by
  have HL1 := Lib.hid (fun w => lower_any s hs w)
  have HI1 := Lib.hid (fun w => is_any s hs w)
  have HR1 := Lib.hid (fun w => rlower_any s hs w)
  have hsz : (str (Al.low (lst s))).size = s.size := by rw [str_size, Al.low_len, lst_length]
  have HL2 := Lib.hid (fun w => lower_any (str (Al.low (lst s))) (by rw [hsz]; exact hs) w)
  have HI2 := Lib.hid (fun w => is_any (str (Al.low (lst s))) (by rw [hsz]; exact hs) w)
  have hl2 := HL2.out; have hi2 := HI2.out
  rw [lst_str, Al.low_low] at hl2
  rw [lst_str, Al.isX_low] at hi2
  replace HL2 := Lib.hid hl2; replace HI2 := Lib.hid hi2
  clear hl2 hi2
  generalize Al.low (lst s) = M at *
  generalize Al.isX (lst s) = x at *
  unfold maxLen at hs
  go_enter Try.func15, Try.ntmps15
  go_wp2_with fail
  refine (HL1.out _).mono ?_
  rintro e w1 ⟨rfl, hb⟩
  have HB := Lib.hid hb; have hs1 := hb.size; clear hb
  go_wp2_with fail
  refine (awake11_any _).mono ?_
  rintro e w2 ⟨rfl, hb⟩
  replace HB := Lib.hid (HB.out.trans (hb.mono hs1)); replace hs1 := HB.out.size; clear hb
  go_wp2_with fail
  refine (HL2.out _).mono ?_
  rintro e w3 ⟨rfl, hb⟩
  replace HB := Lib.hid (HB.out.trans (hb.mono hs1)); replace hs1 := HB.out.size; clear hb
  go_wp2_with fail
  refine (HI2.out _).mono ?_
  rintro e w4 ⟨rfl, hb⟩
  replace HB := Lib.hid (HB.out.trans (hb.mono hs1)); replace hs1 := HB.out.size; clear hb
  go_wp2_with fail
  refine (HI1.out _).mono ?_
  rintro e w5 ⟨rfl, hb⟩
  replace HB := Lib.hid (HB.out.trans (hb.mono hs1)); replace hs1 := HB.out.size; clear hb
  go_wp2_with fail
  refine (HR1.out _).mono ?_
  rintro e w6 ⟨rfl, hb⟩
  replace HB := Lib.hid (HB.out.trans (hb.mono hs1)); replace hs1 := HB.out.size; clear hb
  go_wp2
  go_ret
  exact ⟨rfl, HB.out⟩
end Go.Proofs.Ytoihjbiahccaaaa
