/- The walks of check, Set, Clear, Count; of the reference's Find and Count. -/
import Derived.Test.YthdfhijahkfjdaaInsert
namespace Go.Proofs.Ythdfhijahkfjdaa
open Go Go.RowKit
set_option linter.unusedVariables false

theorem Rg.err_one {l : List Rg.Sn} {x y : Int} (h : ¬ Rg.valid l = true) : Rg.err l x y = 1 := by unfold Rg.err; rw [if_neg h]
theorem Rg.err_three {l : List Rg.Sn} {x y : Int} (h : Rg.valid l = true) (hx : x < 0 ∨ y < x ∨ 1114111 < y) : Rg.err l x y = 3 := by unfold Rg.err; rw [if_pos h, if_pos hx]
theorem Rg.err_none {l : List Rg.Sn} {x y : Int} (h : Rg.valid l = true) (hx : ¬ (x < 0 ∨ y < x ∨ 1114111 < y)) : Rg.err l x y = 0 := by unfold Rg.err; rw [if_pos h, if_neg hx]
theorem Rg.err_cases (l : List Rg.Sn) (x y : Int) : Rg.err l x y = 0 ∨ Rg.err l x y = 1 ∨ Rg.err l x y = 3 := by
  unfold Rg.err; split
  · split
    · exact .inr (.inr rfl)
    · exact .inl rfl
  · exact .inr (.inl rfl)

set_option maxHeartbeats 1000000 in
theorem check_is (A : Option Addr) (c : Nat) (l : List Rg.Sn) (x y n : Int) (hn : Rg.err l x y = n) (B : Nat) (w : World) (hr : Rd w B 3 A l.length (spans l)) (hBw : B ≤ w.heap.size) (hl : l.length ≤ 1000000000000000) :
    Calls Try.prog 25 #[.slice A l.length c, .int .i64 x, .int .i64 y] w fun e w' => e = .returned (.int .i64 n) ∧ Below w.heap.size w w' := by
  have HR := Lib.hid hr; clear hr
  by_cases hv : Rg.valid l = true
  · have HV := Lib.hid hv
    by_cases hx : x < 0 ∨ y < x ∨ 1114111 < y
    · have h3 := Rg.err_three hv hx
      rw [hn] at h3
      subst h3
      clear hv hn
      go_enter Try.func25, Try.ntmps25
      go_wp2_with fail
      refine (valid_is A c l true HV.out B _ HR.out (by omega) (by omega)).mono ?_
      rintro e w1 ⟨rfl, hb1⟩
      have HB := Lib.hid hb1; clear hb1
      have hx2 : x < 0 ∨ (0 ≤ x ∧ y < x) ∨ (0 ≤ x ∧ x ≤ y ∧ 1114111 < y) := by omega
      clear hx
      rcases hx2 with h | ⟨h1, h2⟩ | ⟨h1, h2, h3⟩
      all_goals
        go_wp2
        go_ret
        exact ⟨rfl, HB.out⟩
    · have h3 := Rg.err_none hv hx
      rw [hn] at h3
      subst h3
      clear hv hn
      have hx2 : 0 ≤ x ∧ x ≤ y ∧ y ≤ 1114111 := by omega
      obtain ⟨h1, h2, h3⟩ := hx2
      clear hx
      go_enter Try.func25, Try.ntmps25
      go_wp2_with fail
      refine (valid_is A c l true HV.out B _ HR.out (by omega) (by omega)).mono ?_
      rintro e w1 ⟨rfl, hb1⟩
      have HB := Lib.hid hb1; clear hb1
      go_wp2
      go_ret
      exact ⟨rfl, HB.out⟩
  · have h3 := Rg.err_one (x := x) (y := y) hv
    rw [hn] at h3
    subst h3
    have hv' : Rg.valid l = false := by simpa using hv
    have HV := Lib.hid hv'; clear hv hv' hn
    go_enter Try.func25, Try.ntmps25
    go_wp2_with fail
    refine (valid_is A c l false HV.out B _ HR.out (by omega) (by omega)).mono ?_
    rintro e w1 ⟨rfl, hb1⟩
    have HB := Lib.hid hb1; clear hb1
    go_wp2
    go_ret
    exact ⟨rfl, HB.out⟩

theorem RetSpE.up {r : List Rg.Sn × Int} {w w1 w' : World} {e : Ending} (hb : Below w.heap.size w w1) (h : RetSpE r w1 e w') : RetSpE r w e w' := by
  obtain ⟨A, c, he, ho, hb2⟩ := h
  exact ⟨A, c, he, own_low ho hb.size, hb.trans (hb2.mono hb.size)⟩
theorem RetSp.up {r : List Rg.Sn} {w w1 w' : World} {e : Ending} (hb : Below w.heap.size w w1) (h : RetSp r w1 e w') : RetSp r w e w' := by
  obtain ⟨A, c, he, ho, hb2⟩ := h
  exact ⟨A, c, he, own_low ho hb.size, hb.trans (hb2.mono hb.size)⟩
theorem own_cap {w : World} {base : Nat} {e : TypeId} {size n c : Nat} {A : Option Addr} {xs : List Value} (h : w.ownsRow base e size (.slice A n c) n xs) : n ≤ c ∧ c ≤ maxLen := by
  rcases h.2 with ⟨hv, h0⟩ | ⟨g, cap, cur, hv, _, _, hnc, hcm, _⟩
  · injection hv with h1 h2 h3
    subst h3; subst h0; exact ⟨by omega, by unfold maxLen; omega⟩
  · injection hv with h1 h2 h3
    subst h3; exact ⟨hnc, hcm⟩
theorem Rg.setP_zero {l : List Rg.Sn} {x y v : Int} (h : Rg.err l x y = 0) : Rg.setP l x y v = Rg.full (Rg.rep l ⟨x, y, v⟩) := by unfold Rg.setP; rw [if_pos h]
theorem Rg.setP_err {l : List Rg.Sn} {x y v n : Int} (h : Rg.err l x y = n) (hn : n ≠ 0) : Rg.setP l x y v = ([], n) := by unfold Rg.setP; rw [if_neg (by omega), h]
theorem Rg.clearP_zero {l : List Rg.Sn} {x y : Int} (h : Rg.err l x y = 0) : Rg.clearP l x y = Rg.full (Rg.before l x ++ Rg.after l y) := by unfold Rg.clearP; rw [if_pos h]
theorem Rg.clearP_err {l : List Rg.Sn} {x y n : Int} (h : Rg.err l x y = n) (hn : n ≠ 0) : Rg.clearP l x y = ([], n) := by unfold Rg.clearP; rw [if_neg (by omega), h]
theorem Rg.without_asc {l : List Rg.Sn} {x y a : Int} (h : Rg.Asc a l) (h1 : a < x) (h2 : x ≤ y) : Rg.Asc a (Rg.without l x y) := by
  rw [Rg.without_eq x y (by omega) l a h]; exact Rg.del_asc h h1 h2

set_option maxHeartbeats 2000000 in
theorem set_any (A : Option Addr) (c : Nat) (l : List Rg.Sn) (x y v : Int) (B : Nat) (w : World) (hr : Rd w B 3 A l.length (spans l)) (hBw : B ≤ w.heap.size) (hl : l.length ≤ 1000000000000000) :
    Calls Try.prog 11 #[.slice A l.length c, .int .i64 x, .int .i64 y, .int .i64 v] w (RetSpE (Rg.setP l x y v) w) := by
  have HR := Lib.hid hr; clear hr
  have hbad : ∀ n : Int, Rg.err l x y = n → n ≠ 0 → Calls Try.prog 11 #[.slice A l.length c, .int .i64 x, .int .i64 y, .int .i64 v] w (RetSpE (Rg.setP l x y v) w) := by
    intro n he hn
    rw [Rg.setP_err he hn]
    have HE := Lib.hid he; clear he
    have hb : (n != 0) = true := by simpa using hn
    clear hn
    go_enter Try.func11, Try.ntmps11
    go_wp2_with fail
    refine (check_is A c l x y n HE.out B _ HR.out (by omega) (by omega)).mono ?_
    rintro e w1 ⟨rfl, hb1⟩
    have HB := Lib.hid (RetSpE.none_ n hb1); clear hb1
    go_wp2
    go_ret2
    exact HB.out
  rcases Rg.err_cases l x y with h0 | h0 | h0
  · rw [Rg.setP_zero h0]
    clear hbad
    obtain ⟨hv, hx0, hxy, hy1⟩ := Rg.err_zero.1 h0
    obtain ⟨ha, hl2⟩ := Rg.asc_of_valid hv
    have haw := Rg.without_asc ha (show (-1 : Int) < x by omega) hxy
    have hlw := Rg.without_len l (-1) x y ha hxy
    have hins : Rg.insert (Rg.without l x y) ⟨x, y, v⟩ = Rg.rep l ⟨x, y, v⟩ := Rg.rep_eq l ⟨x, y, v⟩ (-1) ha hxy
    have har : Rg.Asc (-1) (Rg.rep l ⟨x, y, v⟩) := Rg.rep_asc ha (by show (-1 : Int) < x; omega) hxy hy1
    have hlr : (Rg.rep l ⟨x, y, v⟩).length ≤ l.length + 2 := Rg.rep_len ha hxy
    have HE := Lib.hid h0; have HAW := Lib.hid haw; have HI := Lib.hid hins; have HAR := Lib.hid har
    clear h0 hv ha haw hins har
    go_enter Try.func11, Try.ntmps11
    go_wp2_with fail
    refine (check_is A c l x y 0 HE.out B _ HR.out (by omega) (by omega)).mono ?_
    rintro e w1 ⟨rfl, hb1⟩
    have hsz1 := hb1.size
    have HB1 := Lib.hid hb1; clear hb1
    go_wp2_with fail
    refine (without_any A c l x y B _ (HR.out.below (HB1.out.mono hBw)) (by omega) (by omega) (by omega) (by omega) (by omega) (by omega)).mono ?_
    rintro e w2 ⟨A2, c2, rfl, ho2, hb2⟩
    have hsz2 := hb2.size
    have hcap := own_cap ho2
    have HR2 := Lib.hid (Rd.of_own ho2)
    have HB2 := Lib.hid (HB1.out.trans (hb2.mono hsz1))
    clear ho2 hb2
    go_wp2_with fail
    refine (insert_any A2 c2 (Rg.without l x y) ⟨x, y, v⟩ w2.heap.size _ HR2.out (Nat.le_refl _) (by omega) hcap.1 hcap.2 HAW.out).mono ?_
    rw [HI.out]
    rintro e w3 ⟨A3, c3, rfl, ho3, hb3⟩
    have hsz3 := hb3.size
    have HR3 := Lib.hid (Rd.of_own ho3)
    have HB3 := Lib.hid (HB2.out.trans (hb3.mono (by omega)))
    clear ho3 hb3
    go_wp2_with fail
    refine (limited_any A3 c3 (Rg.rep l ⟨x, y, v⟩) w3.heap.size _ HR3.out (Nat.le_refl _) (by omega) HAR.out).mono ?_
    rintro e w4 h4
    have HP := Lib.hid (RetSpE.up HB3.out h4)
    obtain ⟨A4, c4, rfl, _, _⟩ := h4
    go_wp2
    go_ret2
    exact HP.out
  · exact hbad 1 h0 (by decide)
  · exact hbad 3 h0 (by decide)

set_option maxHeartbeats 2000000 in
theorem clear_any (A : Option Addr) (c : Nat) (l : List Rg.Sn) (x y : Int) (B : Nat) (w : World) (hr : Rd w B 3 A l.length (spans l)) (hBw : B ≤ w.heap.size) (hl : l.length ≤ 1000000000000000) :
    Calls Try.prog 14 #[.slice A l.length c, .int .i64 x, .int .i64 y] w (RetSpE (Rg.clearP l x y) w) := by
  have HR := Lib.hid hr; clear hr
  have hbad : ∀ n : Int, Rg.err l x y = n → n ≠ 0 → Calls Try.prog 14 #[.slice A l.length c, .int .i64 x, .int .i64 y] w (RetSpE (Rg.clearP l x y) w) := by
    intro n he hn
    rw [Rg.clearP_err he hn]
    have HE := Lib.hid he; clear he
    have hb : (n != 0) = true := by simpa using hn
    clear hn
    go_enter Try.func14, Try.ntmps14
    go_wp2_with fail
    refine (check_is A c l x y n HE.out B _ HR.out (by omega) (by omega)).mono ?_
    rintro e w1 ⟨rfl, hb1⟩
    have HB := Lib.hid (RetSpE.none_ n hb1); clear hb1
    go_wp2
    go_ret2
    exact HB.out
  rcases Rg.err_cases l x y with h0 | h0 | h0
  · rw [Rg.clearP_zero h0]
    clear hbad
    obtain ⟨hv, hx0, hxy, hy1⟩ := Rg.err_zero.1 h0
    obtain ⟨ha, hl2⟩ := Rg.asc_of_valid hv
    have haw := Rg.without_asc ha (show (-1 : Int) < x by omega) hxy
    have hlw := Rg.without_len l (-1) x y ha hxy
    have hins := Rg.without_eq x y (by omega) l (-1) ha
    have HE := Lib.hid h0; have HAW := Lib.hid haw; have HI := Lib.hid hins
    clear h0 hv ha haw hins
    rw [← HI.out]
    go_enter Try.func14, Try.ntmps14
    go_wp2_with fail
    refine (check_is A c l x y 0 HE.out B _ HR.out (by omega) (by omega)).mono ?_
    rintro e w1 ⟨rfl, hb1⟩
    have hsz1 := hb1.size
    have HB1 := Lib.hid hb1; clear hb1
    go_wp2_with fail
    refine (without_any A c l x y B _ (HR.out.below (HB1.out.mono hBw)) (by omega) (by omega) (by omega) (by omega) (by omega) (by omega)).mono ?_
    rintro e w2 ⟨A2, c2, rfl, ho2, hb2⟩
    have hsz2 := hb2.size
    have HR2 := Lib.hid (Rd.of_own ho2)
    have HB2 := Lib.hid (HB1.out.trans (hb2.mono hsz1))
    clear ho2 hb2
    go_wp2_with fail
    refine (limited_any A2 c2 (Rg.without l x y) w2.heap.size _ HR2.out (Nat.le_refl _) (by omega) HAW.out).mono ?_
    rintro e w4 h4
    have HP := Lib.hid (RetSpE.up HB2.out h4)
    obtain ⟨A4, c4, rfl, _, _⟩ := h4
    go_wp2
    go_ret2
    exact HP.out
  · exact hbad 1 h0 (by decide)
  · exact hbad 3 h0 (by decide)
end Go.Proofs.Ythdfhijahkfjdaa
