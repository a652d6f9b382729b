/- The walks of the laws on boxes: the example, New, Order, Two. -/
import Derived.Test.YtnckclbgpoankaaDrain
import Derived.Test.YtnckclbgpoankaaSource
import Derived.Test.YtnckclbgpoankaaSameS
namespace Go.Proofs.Ytnckclbgpoankaa
open Go Go.RowKit Go.Conc
set_option linter.unusedVariables false

/-- A string of bytes. -/
def bs (l : List UInt8) : ByteArray := ⟨l.toArray⟩

theorem below_box {w w1 w2 : World} {c : Nat} (h : Below w.heap.size w w1) (hc : w.heap.size ≤ c) (hg : w1.grownBy w2 (some c)) : Below w.heap.size w w2 :=
  h.grown hg h.size (fun k hk => by injection hk; omega)

set_option maxHeartbeats 1000000 in
theorem awake29_any (w : World) : Calls Try.prog 17 #[] w fun e w' => e = .returned (.bool true) ∧ Below w.heap.size w w' := by
  go_enter Try.func17, Try.ntmps17
  go_wp2_with fail
  refine (new_yes 1 (by omega) (by omega) _).mono ?_
  rintro e w1 ⟨g, c, rfl, hx1, hg1, hc1, hb1⟩
  have HB1 := Lib.hid hb1; have HX1 := Lib.hid hx1; clear hb1 hx1
  go_wp2_with fail
  refine (put_yes _ _ _ _ _ _ HX1.out (by simp)).mono ?_
  rintro e w2 ⟨rfl, hx2, hg2⟩
  have HB2 := Lib.hid (below_box HB1.out hc1 hg2); have HX2 := Lib.hid hx2; clear hx2 hg2
  go_wp2_with fail
  refine (put_no _ _ _ _ _ _ HX2.out (by simp)).mono ?_
  rintro e w' ⟨rfl, rfl⟩
  go_wp2_with fail
  refine (take_yes _ _ _ _ _ _ HX2.out).mono ?_
  rintro e w3 ⟨rfl, hx3, hg3⟩
  have HB3 := Lib.hid (below_box HB2.out hc1 hg3); have HX3 := Lib.hid hx3; clear hx3 hg3
  go_wp2_with fail
  refine (put_yes _ _ _ _ _ _ HX3.out (by simp)).mono ?_
  rintro e w4 ⟨rfl, hx4, hg4⟩
  have HB4 := Lib.hid (below_box HB3.out hc1 hg4); have HX4 := Lib.hid hx4; clear hx4 hg4
  go_wp2_with fail
  refine (len_any _ _ _ _ _ HX4.out).mono ?_
  rintro e w' ⟨rfl, rfl⟩
  go_wp2
  go_ret
  exact ⟨rfl, HB4.out⟩

/-- New at any number: a box where it is in range, else nil and an error. -/
def RetNew (m : Int) (w : World) (e : Ending) (w' : World) : Prop :=
  ∃ p er, e = .returned (.tuple #[.pointer p, .int .i64 er]) ∧ Below w.heap.size w w' ∧ ((1 ≤ m ∧ m ≤ 8 ∧ er = 0 ∧ ∃ g, p = some ⟨g, 0, none⟩) ∨ ((m < 1 ∨ 8 < m) ∧ er = 3 ∧ p = none))
theorem new_any (m : Int) (w : World) : Calls Try.prog 16 #[.int .i64 m] w (RetNew m w) := by
  by_cases h : 1 ≤ m ∧ m ≤ 8
  · obtain ⟨n, rfl⟩ := Int.eq_ofNat_of_zero_le (show 0 ≤ m by omega)
    refine (new_yes n (by omega) (by omega) w).mono ?_
    rintro e w1 ⟨g, c, rfl, _, _, _, hb⟩
    exact ⟨_, _, rfl, hb, .inl ⟨h.1, h.2, rfl, g, rfl⟩⟩
  · refine (new_no m (by omega) w).mono ?_
    rintro e w1 ⟨rfl, rfl⟩
    exact ⟨_, _, rfl, Below.refl _ _, .inr ⟨by omega, rfl, rfl⟩⟩

set_option maxHeartbeats 1000000 in
theorem walk_MailboxNew (a0 a1 : Int) (w : World) (w0 : (Lit.int .i64 a0).wf = true) (w1 : (Lit.int .i64 a1).wf = true) :
    Calls Try.prog 3 #[.int .i64 a0, .int .i64 a1] w fun e w' => e = .returned (.bool true) ∧ Below w.heap.size w w' := by
  clear w0 w1
  have l0 := Kp.pick_lo a1 14 (by omega)
  have l1 := Kp.pick_hi a1 14 (by omega)
  go_enter Try.func3, Try.ntmps3
  go_wp2_with fail
  refine (pick_any _ _ (by omega) (by omega) _).mono ?_
  rintro e w' ⟨rfl, rfl⟩
  go_wp2_with fail
  refine (new_any _ _).mono ?_
  rintro e w1 ⟨p, er, rfl, hb1, hp⟩
  have HB1 := Lib.hid hb1; clear hb1
  go_wp2_with fail
  refine (new_any _ _).mono ?_
  rintro e w2 ⟨q, fr, rfl, hb2, hq⟩
  have HB2 := Lib.hid (below_step HB1.out hb2); clear hb2
  have hp' : (1 ≤ a0 ∧ a0 ≤ 8 ∧ er = 0 ∧ ∃ g, p = some ⟨g, 0, none⟩) ∨ (a0 < 1 ∧ er = 3 ∧ p = none) ∨ (¬ a0 < 1 ∧ 8 < a0 ∧ er = 3 ∧ p = none) := by
    rcases hp with h | ⟨h, h2, h3⟩
    · exact .inl h
    · by_cases h1 : a0 < 1
      · exact .inr (.inl ⟨h1, h2, h3⟩)
      · exact .inr (.inr ⟨h1, by omega, h2, h3⟩)
  have hq' : (1 ≤ Kp.pick a1 14 - 2 ∧ Kp.pick a1 14 - 2 ≤ 8 ∧ fr = 0 ∧ ∃ g, q = some ⟨g, 0, none⟩) ∨ (Kp.pick a1 14 - 2 < 1 ∧ fr = 3 ∧ q = none) ∨ (¬ Kp.pick a1 14 - 2 < 1 ∧ 8 < Kp.pick a1 14 - 2 ∧ fr = 3 ∧ q = none) := by
    rcases hq with h | ⟨h, h2, h3⟩
    · exact .inl h
    · by_cases h1 : Kp.pick a1 14 - 2 < 1
      · exact .inr (.inl ⟨h1, h2, h3⟩)
      · exact .inr (.inr ⟨h1, by omega, h2, h3⟩)
  clear hp hq
  rcases hp' with ⟨h1, h8, rfl, g, rfl⟩ | ⟨h1, rfl, rfl⟩ | ⟨h1, h8, rfl, rfl⟩ <;> rcases hq' with ⟨k1, k8, rfl, g', rfl⟩ | ⟨k1, rfl, rfl⟩ | ⟨k1, k8, rfl, rfl⟩
  all_goals
    go_wp2_with fail
    refine (awake29_any _).mono ?_
    rintro e w3 ⟨rfl, hb3⟩
    have HB3 := Lib.hid (below_step HB2.out hb3); clear hb3
    go_wp2
    go_ret
    exact ⟨rfl, HB3.out⟩

theorem take_snoc' {α : Type} (xs : List α) (k : Nat) (c : α) (h : xs[k]? = some c) : xs.take (k + 1) = xs.take k ++ [c] := by
  obtain ⟨hk, rfl⟩ := List.getElem?_eq_some_iff.1 h
  rw [List.take_succ_eq_append_getElem hk]
theorem drop_cons' {α : Type} (xs : List α) (k : Nat) (c : α) (h : xs[k]? = some c) : xs.drop k = c :: xs.drop (k + 1) := by
  obtain ⟨hk, rfl⟩ := List.getElem?_eq_some_iff.1 h
  rw [List.drop_eq_getElem_cons hk]

set_option maxHeartbeats 2000000 in
theorem walk_MailboxOrder (a0 : Option Addr) (c0 : Nat) (x0 : List ByteArray) (w : World) (r0 : Rd w w.heap.size 1 a0 x0.length (strs x0)) (m0 : x0.length ≤ maxLen) (f0 : ∀ s ∈ x0, s.size ≤ maxLen) :
    Calls Try.prog 6 #[.slice a0 x0.length c0] w fun e w' => e = .returned (.bool true) ∧ Below w.heap.size w w' := by
  unfold maxLen at m0
  clear f0
  have HR := Lib.hid r0; clear r0
  generalize hn : x0.length = n at *
  have HN := Lib.hid hn; clear hn
  generalize hB : w.heap.size = B at *
  have HBB := Lib.hid hB; clear hB
  go_enter Try.func6, Try.ntmps6
  go_wp2_with fail
  refine (new_yes 8 (by omega) (by omega) _).mono ?_
  rintro e w1 ⟨g, c, rfl, hx1, hg1, hc1, hb1⟩
  rw [HBB.out] at hg1 hc1 hb1
  have HB1 := Lib.hid hb1; have HX1 := Lib.hid hx1; clear hb1 hx1
  go_wp2_with fail
  go_loopw [5, 25] (fun cn i wr => ∃ k m : Nat, k ≤ n ∧ i = .int .i64 k ∧ cn = .int .i64 m ∧ m ≤ 8 ∧ (m = k ∨ (m = 8 ∧ 8 ≤ k)) ∧ Box wr g c 8 (x0.take m) ∧ Below B w wr) (fun _ i _ => n - (intOf i).toNat)
  case atStart => exact ⟨0, 0, by omega, rfl, rfl, by omega, .inl rfl, HX1.out, HB1.out⟩
  case round =>
    obtain ⟨k, m, hk, rfl, rfl, hm8, hmk, hx, hb⟩ := hrel
    have HX := Lib.hid hx; have HB := Lib.hid hb; have HM := Lib.hid hmk; clear hx hb hmk
    by_cases hlt : k < n
    · obtain ⟨b, off, t, rfl, _, ht, hct⟩ := strs_cell (HR.out.below HB.out) hlt
      have HT := Lib.hid ht; clear ht
      by_cases hk8 : k < 8
      · have hmk : m = k := by have := HM.out; omega
        subst hmk
        go_wp2_with fail
        refine (put_yes _ _ _ _ _ _ HX.out (by simp; omega)).mono ?_
        rintro e w2 ⟨rfl, hx2, hg2⟩
        rw [← take_snoc' x0 m t HT.out] at hx2
        have HX2 := Lib.hid hx2
        have HB2 := Lib.hid (HB.out.grown hg2 (by have := HB.out.size; have := HBB.out; omega) (fun q hq => by injection hq; omega))
        clear hx2 hg2
        go_wp2_with fail
        go_roundw
        case rel => exact ⟨m + 1, m + 1, by omega, by go_num, by go_num, by omega, .inl rfl, HX2.out, HB2.out⟩
        case measure => simp [intOf]; omega
      · have hmk : m = 8 := by have := HM.out; omega
        have HM8 := Lib.hid hmk; clear hmk
        go_wp2_with fail
        refine (put_no _ _ _ _ _ _ HX.out (by simp; have := HM8.out; have := HN.out; omega)).mono ?_
        rintro e w' ⟨rfl, rfl⟩
        go_wp2_with fail
        go_roundw
        case rel => exact ⟨k + 1, m, by omega, by go_num, rfl, by omega, .inr ⟨HM8.out, by omega⟩, HX.out, HB.out⟩
        case measure => simp [intOf]; omega
    · have hkn : k = n := by omega
      have hmle : m ≤ n := by have := HM.out; omega
      have hcase : ((8 : Int) < (n : Int) ∧ ((m : Int) != 8) = false) ∨ (¬ (8 : Int) < (n : Int) ∧ ((m : Int) != (n : Int)) = false) := by
        by_cases h8 : 8 < n
        · exact .inl ⟨by omega, by have := HM.out; rw [bne_eq_false_iff_eq]; omega⟩
        · exact .inr ⟨by omega, by have := HM.out; rw [bne_eq_false_iff_eq]; omega⟩
      clear hkn
      rcases hcase with ⟨h8, hne⟩ | ⟨h8, hne⟩
      all_goals
        go_wp2_with fail
        go_loopw [8] (fun i wr => ∃ j : Nat, j ≤ m ∧ i = .int .i64 j ∧ Box wr g c 8 ((x0.take m).drop j) ∧ Below B w wr) (fun i _ => m - (intOf i).toNat)
        case atStart => exact ⟨0, by omega, rfl, HX.out, HB.out⟩
        case round =>
          obtain ⟨j, hj, rfl, hx, hb⟩ := hrel
          have HX5 := Lib.hid hx; have HB5 := Lib.hid hb; clear hx hb
          by_cases hlt : j < m
          · obtain ⟨b, off, t, rfl, hbB, ht, hct⟩ := strs_cell (HR.out.below HB5.out) (show j < n by omega)
            have HT := Lib.hid ht; clear ht
            have hdr : (x0.take m).drop j = t :: (x0.take m).drop (j + 1) := drop_cons' _ _ _ (by rw [List.getElem?_take, if_pos hlt]; exact HT.out)
            have HD := Lib.hid hdr; clear hdr
            go_wp2_with fail
            have hx6 := HX5.out
            rw [HD.out] at hx6
            refine (take_yes _ _ _ _ _ _ hx6).mono ?_
            clear hx6
            rintro e w2 ⟨rfl, hx2, hg2⟩
            have HX2 := Lib.hid hx2
            have HB2 := Lib.hid (HB5.out.grown hg2 (by have := HB5.out.size; have := HBB.out; omega) (fun q hq => by injection hq; omega))
            have hct2 : w2.cell? ⟨b, off + j, none⟩ = some (.string t) := by
              rw [← hct, HB2.out.cell (p := ⟨b, off + j, none⟩) hbB, HB5.out.cell (p := ⟨b, off + j, none⟩) hbB]
            clear hx2 hg2 hct
            have hjn : (j : Int) < (n : Int) := by omega
            have hse : (t.toList == t.toList) = true := by simp
            go_wp2_with fail
            go_roundw
            case rel => exact ⟨j + 1, by omega, by go_num, HX2.out, HB2.out⟩
            case measure => simp [intOf]; omega
          · have hjm : j = m := by omega
            have hem : (x0.take m).drop j = [] := by rw [hjm]; exact List.drop_eq_nil_of_le (by simp; omega)
            have HE := Lib.hid hem; clear hem hjm
            go_wp2_with fail
            have hx6 := HX5.out
            rw [HE.out] at hx6
            have HX6 := Lib.hid hx6; clear hx6
            refine (take_no _ _ _ _ HX6.out).mono ?_
            rintro e w' ⟨rfl, rfl⟩
            go_wp2_with fail
            refine (awake29_any _).mono ?_
            rintro e w3 ⟨rfl, hb3⟩
            have hxl := HX6.out.lt
            have HX7 := Lib.hid (HX6.out.below hb3 hxl.1 hxl.2.1)
            have HB7 := Lib.hid (HB5.out.trans (hb3.mono (by have := HB5.out.size; have := HBB.out; omega)))
            clear hb3 hxl
            go_wp2_with fail
            refine (drain_any _ _ _ _ _ HX7.out (by simp)).mono ?_
            rintro e w4 ⟨A4, d4, rfl, _, _, hg4⟩
            have HB8 := Lib.hid (HB7.out.grown hg4 (by have := HB7.out.size; have := HBB.out; omega) (fun q hq => by injection hq; omega))
            clear hg4
            go_wp2
            go_ret
            exact ⟨rfl, HB8.out⟩
end Go.Proofs.Ytnckclbgpoankaa
