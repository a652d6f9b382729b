/- The walks of the reference's Check and valid. -/
import Derived.Test.YthdfhijahkfjdaaMrg
namespace Go.Proofs.Ythdfhijahkfjdaa
open Go Go.RowKit
set_option linter.unusedVariables false

theorem Rg.check_no {l : List Rg.Sn} {lo hi : Int} (h : Rg.chk lo hi (-1) l = false) : Rg.check l lo hi = false := by unfold Rg.check; rw [h]; rfl
theorem Rg.check_long {l : List Rg.Sn} {lo hi : Int} (h : 256 < l.length) : Rg.check l lo hi = false := by
  unfold Rg.check; rw [Bool.and_eq_false_iff]; right; simpa using h
theorem Rg.check_yes {l : List Rg.Sn} {lo hi : Int} (h : Rg.chk lo hi (-1) l = true) (hl : l.length ≤ 256) : Rg.check l lo hi = true := by unfold Rg.check; rw [h]; simpa using hl
set_option maxHeartbeats 8000000 in
theorem rfcheck_any (A : Option Addr) (c : Nat) (l : List Rg.Sn) (lo hi : Int) (B : Nat) (w : World) (hr : Rd w B 3 A l.length (spans l)) (hBw : B ≤ w.heap.size) (hl : l.length ≤ 100000000000000000) :
    Calls Try.prog 20 #[.slice A l.length c, .int .i64 lo, .int .i64 hi] w fun e w' => e = .returned (.bool (Rg.check l lo hi)) ∧ Below w.heap.size w w' := by
  have HR := Lib.hid hr; clear hr
  generalize hn : l.length = n at *
  have HN := Lib.hid hn; clear hn
  by_cases h256 : 256 < n
  · have hck := Rg.check_long (lo := lo) (hi := hi) (by rw [HN.out]; exact h256)
    rw [hck]
    clear hck
    go_enter Try.func20, Try.ntmps20
    go_wp2
    go_ret
    exact ⟨rfl, Below.refl _ _⟩
  · go_enter Try.func20, Try.ntmps20
    go_wp2
    go_loopw [7, 14] (fun _ i wr => ∃ (k : Nat) (last : Int), k ≤ n ∧ i = .int .i64 k ∧ -1 ≤ last ∧ (k = 0 ∧ last = -1 ∨ ∃ k' p, k = k' + 1 ∧ l[k']? = some p ∧ p.t = last) ∧ Rg.chk lo hi (-1) l = Rg.chk lo hi last (l.drop k) ∧ Below w.heap.size w wr) (fun _ i _ => n - (intOf i).toNat)
    case atStart => exact ⟨0, -1, by omega, rfl, by omega, .inl ⟨rfl, rfl⟩, rfl, Below.refl _ _⟩
    case round =>
      obtain ⟨k, last, hk, rfl, hlast, hprev, hch, hb⟩ := hrel
      have HCH := Lib.hid hch; have HB := Lib.hid hb; have HP := Lib.hid hprev; clear hch hb hprev
      by_cases hlt : k < n
      · obtain ⟨b, off, s, rfl, hbB, hs, h1, h2, h3⟩ := spans_cell (HR.out.below (HB.out.mono hBw)) hlt
        have hdr : l.drop k = s :: l.drop (k + 1) := by
          obtain ⟨hk', rfl⟩ := List.getElem?_eq_some_iff.1 hs
          exact List.drop_eq_getElem_cons hk'
        have hst : Rg.chk lo hi (-1) l = if s.f ≤ last ∨ s.t < s.f ∨ 1114111 < s.t ∨ s.f < lo ∨ hi < s.t then false else Rg.chk lo hi s.t (l.drop (k + 1)) := by rw [HCH.out, hdr]; rfl
        have HST := Lib.hid hst
        have HB2 := Lib.hid (HB.out.alloc HB.out.size (.cells #[.int .i64 s.f, .int .i64 s.t, .int .i64 s.v] 25))
        have HS := Lib.hid hs
        clear hst hdr hs HCH
        by_cases c1 : s.f < 0
        · have d1 : decide (s.f < 0) = true := by simpa using c1
          clear HP HS
          go_wp2_with fail
          go_quiet (fail)
          go_wp2
          go_ret
          have hst := HST.out
          rw [if_pos (by omega)] at hst
          exact ⟨ret_b (Rg.check_no hst).symm, below_drewN HB2.out _⟩
        · have d1 : decide (s.f < 0) = false := by simpa using c1
          by_cases c2 : s.t < s.f
          · have d2 : decide (s.t < s.f) = true := by simpa using c2
            clear HP HS
            go_wp2_with fail
            go_quiet (fail)
            go_wp2
            go_ret
            have hst := HST.out
            rw [if_pos (by omega)] at hst
            exact ⟨ret_b (Rg.check_no hst).symm, below_drewN HB2.out _⟩
          · have d2 : decide (s.t < s.f) = false := by simpa using c2
            by_cases c3 : 1114111 < s.t
            · have d3 : decide (1114111 < s.t) = true := by simpa using c3
              clear HP HS
              go_wp2_with fail
              go_quiet (fail)
              go_wp2
              go_ret
              have hst := HST.out
              rw [if_pos (by omega)] at hst
              exact ⟨ret_b (Rg.check_no hst).symm, below_drewN HB2.out _⟩
            · have d3 : decide (1114111 < s.t) = false := by simpa using c3
              by_cases c4 : s.f < lo
              · have d4 : decide (s.f < lo) = true := by simpa using c4
                clear HP HS
                go_wp2_with fail
                go_quiet (fail)
                go_wp2
                go_ret
                have hst := HST.out
                rw [if_pos (by omega)] at hst
                exact ⟨ret_b (Rg.check_no hst).symm, below_drewN HB2.out _⟩
              · have d4 : decide (s.f < lo) = false := by simpa using c4
                by_cases c5 : hi < s.t
                · have d5 : decide (hi < s.t) = true := by simpa using c5
                  clear HP HS
                  go_wp2_with fail
                  go_quiet (fail)
                  go_wp2
                  go_ret
                  have hst := HST.out
                  rw [if_pos (by omega)] at hst
                  exact ⟨ret_b (Rg.check_no hst).symm, below_drewN HB2.out _⟩
                · have d5 : decide (hi < s.t) = false := by simpa using c5
                  rcases HP.out with ⟨hk0, hl0⟩ | ⟨k', p, hk1, hp, hl1⟩
                  · subst hk0; subst hl0
                    simp at h1 h2 h3
                    clear HP
                    have d6 : decide ((0 : Int) < 0) = false := by simp
                    go_wp2_with fail
                    go_quiet (fail)
                    go_wp2
                    go_roundw
                    case rel =>
                      refine ⟨0 + 1, s.t, by omega, by go_num, by omega, .inr ⟨0, s, rfl, HS.out, rfl⟩, ?_, below_drewN HB2.out _⟩
                      have := HST.out
                      rw [if_neg (by omega)] at this
                      exact this
                    case measure => simp [intOf]; omega
                  · subst hk1; subst hl1
                    clear HP
                    obtain ⟨bp, offp, p', hA', hbp, hp', g1, g2, g3⟩ := spans_cell (HR.out.below (HB.out.mono hBw)) (show k' < n by omega)
                    rw [hp] at hp'; injection hp' with hp'; subst hp'
                    injection hA' with hA'; injection hA' with e1 e2; subst e1; subst e2
                    have hbw : b < wr.heap.size := by have := HB.out.size; omega
                    have g4 : (wr.alloc (.cells #[.int .i64 s.f, .int .i64 s.t, .int .i64 s.v] 25)).cell? ⟨b, off + k' * 3 + 1, none⟩ = some (.int .i64 p.t) := (World.cell?_alloc_lt wr _ _ hbw).trans g2
                    clear hp
                    have dk : decide (0 < ((k' : Int) + 1)) = true := by simp <;> omega
                    have e1 : IntKind.i64.wrap ((k' : Int) + 1 - 1) = (k' : Int) := by rw [show (k' : Int) + 1 - 1 = k' by omega]; exact IntWalk.i64_in _ (by omega)
                    have e2 : IntKind.i64.wrap (k' : Int) = (k' : Int) := IntWalk.i64_in _ (by omega)
                    have e3 : (0 : Int) ≤ (k' : Int) := by omega
                    have e4 : (k' : Int) < (n : Int) := by omega
                    have e5 : (k' : Int) + 1 < (n : Int) := by omega
                    by_cases c6 : s.f ≤ p.t
                    · have d6 : decide (s.f ≤ p.t) = true := by simpa using c6
                      clear HS
                      go_wp2_with fail
                      go_quiet (fail)
                      go_wp2
                      clear e1 e2
                      go_ret
                      have hst := HST.out
                      rw [if_pos (by omega)] at hst
                      exact ⟨ret_b (Rg.check_no hst).symm, below_drewN HB2.out _⟩
                    · have d6 : decide (s.f ≤ p.t) = false := by simpa using c6
                      go_wp2_with fail
                      go_quiet (fail)
                      go_wp2
                      clear e1 e2
                      go_roundw
                      case rel =>
                        refine ⟨k' + 1 + 1, s.t, by omega, by go_num, by omega, .inr ⟨k' + 1, s, rfl, HS.out, rfl⟩, ?_, below_drewN HB2.out _⟩
                        have := HST.out
                        rw [if_neg (by omega)] at this
                        exact this
                      case measure => simp [intOf]; omega
      · have hkn : k = n := by omega
        have hdn : l.drop k = [] := List.drop_eq_nil_of_le (by have := HN.out; omega)
        have hch : Rg.check l lo hi = true := Rg.check_yes (by rw [HCH.out, hdn]; rfl) (by have := HN.out; omega)
        have HCK := Lib.hid hch
        clear hch hdn HCH
        go_wp2
        go_ret
        rw [HCK.out]
        exact ⟨rfl, HB.out⟩

set_option maxHeartbeats 400000 in
theorem rvalid_is (A : Option Addr) (c : Nat) (l : List Rg.Sn) (b : Bool) (hv : Rg.valid l = b) (B : Nat) (w : World) (hr : Rd w B 3 A l.length (spans l)) (hBw : B ≤ w.heap.size) (hl : l.length ≤ 100000000000000000) :
    Calls Try.prog 31 #[.slice A l.length c] w fun e w' => e = .returned (.bool b) ∧ Below w.heap.size w w' := by
  subst hv
  have HR := Lib.hid hr; clear hr
  go_enter Try.func31, Try.ntmps31
  go_wp2_with fail
  refine (rfcheck_any A c l 0 1114111 B _ HR.out (by omega) (by omega)).mono ?_
  rintro e w1 ⟨rfl, hb⟩
  have HB := Lib.hid hb; clear hb
  go_wp2
  go_ret
  exact ⟨rfl, HB.out⟩
end Go.Proofs.Ythdfhijahkfjdaa
