/- The walks of Decompose on Hangul and of its reference. -/
import Derived.Test.YtnckclbgpoankaaHangulC
namespace Go.Proofs.Ytnckclbgpoankaa
open Go Go.RowKit

set_option maxHeartbeats 400000 in
theorem hdec_any (c : Int) (w : World) : Calls Try.prog 35 #[.int .i64 c] w (RetI 3 (Hg.dec c) w) := by
  by_cases hs : Hg.syl c = true
  · obtain ⟨⟨i0, i1⟩, ⟨j0, j1⟩, ⟨k0, k1⟩, hloop⟩ := Hg.parts_bd c hs
    clear hloop
    by_cases hk : Hg.pK c = 0
    · have e1 : Hg.dec c = [4352 + Hg.pI c, 4449 + Hg.pJ c] := by unfold Hg.dec; rw [if_pos hs, if_pos hk]
      have hb : (Hg.pK c == 0) = true := by rw [beq_iff_eq]; exact hk
      rw [e1]; clear e1 hk
      go_enter Try.func35, Try.ntmps35
      go_wp2_with (go_at_call 29; refine (hparts_any _ _).mono ?_; rintro e w' ⟨rfl, rfl⟩)
      go_ret
      exact RetI.built _ _ _ _ 2 rfl rfl (by decide)
    · have e1 : Hg.dec c = [4352 + Hg.pI c, 4449 + Hg.pJ c, 4519 + Hg.pK c] := by unfold Hg.dec; rw [if_pos hs, if_neg hk]
      have hb : (Hg.pK c == 0) = false := by rw [beq_eq_false_iff_ne]; exact hk
      rw [e1]; clear e1 hk
      go_enter Try.func35, Try.ntmps35
      go_wp2_with (go_at_call 29; refine (hparts_any _ _).mono ?_; rintro e w' ⟨rfl, rfl⟩)
      go_ret
      exact RetI.built _ _ _ _ 3 rfl rfl (by decide)
  · have hn : Hg.syl c = false := by simpa using hs
    have e1 : Hg.dec c = [] := by unfold Hg.dec; rw [if_neg hs]
    rw [e1]; clear e1 hs
    go_enter Try.func35, Try.ntmps35
    go_wp2_with (go_at_call 29; refine (hparts_any _ _).mono ?_; rintro e w' ⟨rfl, rfl⟩)
    go_ret
    exact RetI.nil_ _ _

set_option maxHeartbeats 400000 in
theorem rdec_any (c : Int) (w : World) : Calls Try.prog 36 #[.int .i64 c] w (RetI 3 (Hg.dec c) w) := by
  by_cases hs : Hg.syl c = true
  · obtain ⟨⟨i0, i1⟩, ⟨j0, j1⟩, ⟨k0, k1⟩, hloop⟩ := Hg.parts_bd c hs
    clear hloop
    by_cases hk : Hg.pK c = 0
    · have e1 : Hg.dec c = [4352 + Hg.pI c, 4449 + Hg.pJ c] := by unfold Hg.dec; rw [if_pos hs, if_pos hk]
      have hb : (Hg.pK c == 0) = true := by rw [beq_iff_eq]; exact hk
      rw [e1]; clear e1 hk
      go_enter Try.func36, Try.ntmps36
      go_wp2_with (go_at_call 30; refine (rparts_any _ _).mono ?_; rintro e w' ⟨rfl, rfl⟩)
      go_ret
      exact RetI.built _ _ _ _ 2 rfl rfl (by decide)
    · have e1 : Hg.dec c = [4352 + Hg.pI c, 4449 + Hg.pJ c, 4519 + Hg.pK c] := by unfold Hg.dec; rw [if_pos hs, if_neg hk]
      have hb : (Hg.pK c == 0) = false := by rw [beq_eq_false_iff_ne]; exact hk
      rw [e1]; clear e1 hk
      go_enter Try.func36, Try.ntmps36
      go_wp2_with (go_at_call 30; refine (rparts_any _ _).mono ?_; rintro e w' ⟨rfl, rfl⟩)
      go_ret
      exact RetI.built _ _ _ _ 3 rfl rfl (by decide)
  · have hn : Hg.syl c = false := by simpa using hs
    have e1 : Hg.dec c = [] := by unfold Hg.dec; rw [if_neg hs]
    rw [e1]; clear e1 hs
    go_enter Try.func36, Try.ntmps36
    go_wp2_with (go_at_call 30; refine (rparts_any _ _).mono ?_; rintro e w' ⟨rfl, rfl⟩)
    go_ret
    exact RetI.nil_ _ _
end Go.Proofs.Ytnckclbgpoankaa
