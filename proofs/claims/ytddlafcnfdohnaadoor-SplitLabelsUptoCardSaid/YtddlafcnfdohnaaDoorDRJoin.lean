/- The walk of the document's Join. -/
import Derived.Test.YtddlafcnfdohnaaDoorDLabels
namespace Go.Proofs.YtddlafcnfdohnaaDoor
open Go Go.RowKit
set_option linter.unusedVariables false

set_option maxHeartbeats 2000000 in
theorem rjoin_any (A : Option Addr) (c : Nat) (yss : List (List Int)) (B0 : Nat) (w : World) (hr : RdR w B0 A yss) (hB0 : B0 ≤ w.heap.size) (hl : Sp.total yss ≤ 8796093022208) (hn0 : yss.length ≤ maxLen) :
    Calls Tryd.prog 12 #[.slice A yss.length c] w (RetI 3 (Sp.join yss) w) := by
  have HR := Lib.hid (hr.more hB0); clear hr hB0
  unfold maxLen at hn0
  generalize hn : yss.length = n at *
  have HN := Lib.hid hn; clear hn
  generalize hB : w.heap.size = B at *
  have HBB := Lib.hid hB; clear hB
  go_enter Tryd.func12, Tryd.ntmps12
  go_wp2
  go_loopw [3, 8] (fun vo i wr => ∃ (k : Nat) (Ao : Option Addr) (co : Nat), k ≤ n ∧ i = .int .i64 k ∧ vo = .slice Ao (Sp.join (yss.take k)).length co ∧
      wr.ownsRow B 3 1 (.slice Ao (Sp.join (yss.take k)).length co) (Sp.join (yss.take k)).length (ints (Sp.join (yss.take k))) ∧ Below B w wr) (fun _ i _ => n - (intOf i).toNat)
  case atStart => exact ⟨0, none, 0, by omega, rfl, rfl, World.ownsRow_nil _ _ _ _, Below.refl _ _⟩
  case round =>
    obtain ⟨k, Ao, co, hk, rfl, rfl, ho, hb⟩ := hrel
    have HO := Lib.hid ho; have HBW := Lib.hid hb; clear ho hb
    have hsz : B ≤ wr.heap.size := by have := HBW.out.size; have := HBB.out; omega
    by_cases hlt : k < n
    · obtain ⟨b, off, ys, A', c', rfl, _, hys, hcy, hry⟩ := (HR.out.below HBW.out).at_ (show k < yss.length by have := HN.out; omega)
      have hj := Sp.join_snoc_take yss k ys hys
      have hb1 : (Sp.join (yss.take (k + 1))).length ≤ 8796093022208 := Nat.le_trans (Sp.join_len _) (Nat.le_trans (Sp.total_take _ _) hl)
      rw [hj] at hb1
      simp at hb1
      have HJ := Lib.hid hj; have HRY := Lib.hid hry
      clear hj hys hry
      by_cases h0 : k = 0
      · have hk0 : ¬ (0 : Int) < (k : Int) := by omega
        rw [if_pos h0] at hb1
        simp at hb1
        have hj2 : Sp.join (yss.take (k + 1)) = Sp.join (yss.take k) ++ ys := by rw [HJ.out, if_pos h0]; simp
        have HJ2 := Lib.hid hj2; clear hj2 h0
        go_wp2_with (at_builtin; refine app_int (by rfl) _ _ rfl (base := B) rfl HO.out rfl HRY.out (by omega) hsz ?_)
        intro A2 c2 w2 ho2 hg2 _
        have hb2 := HBW.out.grown hg2 hsz (fun q h => (HO.out.lt q h).1)
        have HO2 := Lib.hid ho2; have HB2 := Lib.hid hb2; clear ho2 hg2 hb2
        go_wp2
        go_roundw
        case rel =>
          refine ⟨k + 1, A2, c2, by omega, by go_num, ?_, ?_, HB2.out⟩
          · rw [HJ2.out, List.length_append]
          · rw [HJ2.out, List.length_append]; exact HO2.out
        case measure => simp [intOf]; omega
      · have hk0 : (0 : Int) < (k : Int) := by omega
        rw [if_neg h0] at hb1
        simp at hb1
        have hj2 : Sp.join (yss.take (k + 1)) = (Sp.join (yss.take k) ++ [46]) ++ ys := by rw [HJ.out, if_neg h0]
        have HJ2 := Lib.hid hj2; clear hj2 h0
        go_wp2_with (at_builtin; refine app_int (by rfl) _ _ rfl (base := B) rfl (HO.out.alloc _) rfl (rd_one wr 46) (by omega) (by simp; omega) ?_)
        intro A1 c1 w1 ho1 hg1 _
        have hs1 : wr.heap.size + 1 ≤ w1.heap.size := by simpa using hg1.size
        have hoa := HO.out.alloc (.cells #[.int .i64 46] 3)
        have hb1' := (HBW.out.alloc hsz (.cells #[.int .i64 46] 3)).grown hg1 (by simp; omega) (fun q h => (hoa.lt q h).1)
        have hry1 : Rd w1 B 1 A' ys.length (ints ys) := ((HRY.out.alloc hsz _).grown hg1 (by simp; omega) (fun q h => (hoa.lt q h).1))
        have HO1 := Lib.hid ho1; have HB1 := Lib.hid hb1'; have HRY1 := Lib.hid hry1
        clear ho1 hg1 hoa hb1' hry1
        go_wp2_with (at_builtin; refine app_int (by rfl) _ _ rfl (base := B) rfl HO1.out rfl HRY1.out (by omega) (by omega) ?_)
        intro A2 c2 w2 ho2 hg2 _
        have hb2 := HB1.out.grown hg2 (by omega) (fun q h => (HO1.out.lt q h).1)
        have HO2 := Lib.hid ho2; have HB2 := Lib.hid hb2; clear ho2 hg2 hb2
        go_wp2
        go_roundw
        case rel =>
          refine ⟨k + 1, A2, c2, by omega, by go_num, ?_, ?_, HB2.out⟩
          · rw [HJ2.out, List.length_append, List.length_append]; rfl
          · rw [HJ2.out, List.length_append, List.length_append, List.append_assoc]; exact HO2.out
        case measure => simp [intOf]; omega
    · have htk : yss.take k = yss := List.take_of_length_le (by have := HN.out; omega)
      have HTK := Lib.hid htk; clear htk
      go_wp2
      go_ret
      have ho := HO.out
      rw [HTK.out] at ho
      refine ⟨Ao, co, ?_, ?_, ?_⟩
      · rw [HTK.out]; rfl
      · rw [HBB.out]; exact ho
      · rw [HBB.out]; exact HBW.out
end Go.Proofs.YtddlafcnfdohnaaDoor
