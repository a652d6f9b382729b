/- The walk of the law SplitName. -/
import Derived.Test.YtddlafcnfdohnaaDoorDSplit
import Derived.Test.YtddlafcnfdohnaaDoorDLb
namespace Go.Proofs.YtddlafcnfdohnaaDoor
open Go Go.RowKit
set_option linter.unusedVariables false

theorem own_cap {w : World} {base : Nat} {e : TypeId} {A : Option Addr} {n c : Nat} {xs : List Value} (h : w.ownsRow base e 1 (.slice A n c) n xs) : n ≤ c := by
  rcases h.2 with ⟨hv, h0⟩ | ⟨g, cap, cur, hv, _, _, hnc, _⟩
  · omega
  · injection hv with _ _ hc; omega
set_option maxRecDepth 100000 in
set_option maxHeartbeats 4000000 in
theorem walk_SplitName (a0 : Option Addr) (c0 : Nat) (x0 : List Int) (w : World) (r0 : Rd w w.heap.size 1 a0 x0.length (intsK .i64 x0)) (m0 : x0.length ≤ maxLen) (f0 : ∀ n ∈ x0, (Lit.int .i64 n).wf = true) (hsh : Sh w) :
    Calls Tryd.prog 4 #[.slice a0 x0.length c0] w fun e w' => e = .returned (.bool true) ∧ Below w.heap.size w w' := by
  have HR0 := Lib.hid (show Rd w w.heap.size 1 a0 x0.length (ints x0) from r0); have HM0 := Lib.hid m0; have HSH := Lib.hid hsh
  clear r0 m0 f0 hsh
  go_enter Tryd.func4, Tryd.ntmps4
  go_wp2_with fail
  refine (lb_any _ _ _ _ HR0.out HM0.out).mono ?_
  rintro e w1 ⟨ls, hls7, hlb, A1, c1', rfl, ho1, hb1⟩
  have hcap := own_cap ho1
  have HX := Lib.hid (Rd.of_own ho1)
  have hsz1 := hb1.size
  have HB1 := Lib.hid hb1; have HLB := Lib.hid hlb
  clear ho1 hb1 HR0 HM0 hlb
  go_wp2_with fail
  refine (name_any _ _ ls _ _ HX.out (Nat.le_refl _) (by omega) hcap).mono ?_
  rintro e w2 ⟨rfl, hb2⟩
  have hsz2 := hb2.size
  have HB2 := Lib.hid (HB1.out.trans (hb2.mono hsz1))
  have HX2 := Lib.hid (HX.out.below hb2)
  clear hb2
  by_cases h0 : (Sp.chk ls).2 = 0
  · obtain ⟨h1, h2, h3⟩ := Sp.chk_each ls h0
    have hbd := Sp.nmj_bd ls h0
    have hnm : Sp.nm ls = Sp.nmj ls := if_pos h0
    have hsp := sStr_nmj ls h1 (fun s hs => (HLB.out s hs).2)
    rw [h0, hnm]
    generalize Sp.nmj ls = t at *
    have H2 := Lib.hid h2; have HSP := Lib.hid hsp
    clear h0 h1 h2 h3 hnm hsp
    have hbi : (1 : Int) ≤ (t.size : Int) := by omega
    have hbj : (t.size : Int) ≤ 253 := by omega
    obtain ⟨n, hn⟩ : ∃ n, n = ls.length := ⟨_, rfl⟩
    rw [← hn] at HX2 hls7 ⊢
    have HN := Lib.hid hn
    clear hn
    go_wp2_with fail
    go_loopw [32] (fun vi wr => ∃ k : Nat, k ≤ n ∧ vi = .int .i64 k ∧ w2 = wr) (fun vi _ => n - (intOf vi).toNat)
    case atStart => exact ⟨0, by omega, rfl, rfl⟩
    case round =>
      obtain ⟨k, hk, rfl, rfl⟩ := hrel
      by_cases hlt : k < n
      · obtain ⟨b, off, s, rfl, _, hs, hcs⟩ := strs_cell HX2.out hlt
        have hsz := H2.out s (List.mem_of_getElem? hs)
        have q1 : ¬ ((s.size : Int) < 1) := by omega
        have q2 : ¬ ((63 : Int) < (s.size : Int)) := by omega
        clear hs
        go_wp2
        go_roundw
        case rel => exact ⟨k + 1, by omega, by go_num, by trivial⟩
        case measure => simp [intOf]; omega
      · go_wp2_with fail
        refine (awake12_any _).mono ?_
        rintro e w3 ⟨rfl, hb3⟩
        have hsz3 := hb3.size
        have HB3 := Lib.hid (HB2.out.trans (hb3.mono (by omega)))
        have HX3 := Lib.hid (HX2.out.below (hb3.mono (by omega)))
        have HSH3 := Lib.hid (HSH.out.past HB3.out)
        clear hb3
        go_wp2_with fail
        refine (strings_any t _ HSH3.out (by omega)).mono ?_
        rw [HSP.out]
        rintro e w4 ⟨A4, c4, rfl, ho4, hb4⟩
        rw [← HN.out] at ho4 ⊢
        have hsz4 := hb4.size
        have HB4 := Lib.hid (HB3.out.trans (hb4.mono (by omega)))
        have HX4 := Lib.hid ((HX3.out.below (hb4.mono (by omega))).more (B' := w4.heap.size) (by omega))
        have HO4 := Lib.hid (Rd.of_own ho4)
        clear ho4 hb4
        go_wp2_with fail
        refine (sames_ok _ _ n n _ _ ls ls _ _ HO4.out HX4.out (by unfold maxLen; omega) (by unfold maxLen; omega) rfl).mono ?_
        rintro e w5 ⟨rfl, q, rfl⟩
        go_wp2
        go_ret
        exact ⟨rfl, below_drewN HB4.out q⟩
  · have hnm : Sp.nm ls = ⟨#[]⟩ := if_neg h0
    rw [hnm]
    rcases Sp.chk_val ls h0 with hc | hc
    all_goals
      rw [hc]
      clear h0 hnm hc
      go_wp2_with fail
      refine (awake12_any _).mono ?_
      rintro e w3 ⟨rfl, hb3⟩
      have HB3 := Lib.hid (HB2.out.trans (hb3.mono (by omega)))
      clear hb3
      go_wp2
      go_ret
      exact ⟨rfl, HB3.out⟩
end Go.Proofs.YtddlafcnfdohnaaDoor
