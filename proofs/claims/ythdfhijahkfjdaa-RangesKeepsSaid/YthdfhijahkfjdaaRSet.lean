/- The walks of the reference's Set, Clear, Find; of Count, ours and the reference's. -/
import Derived.Test.YthdfhijahkfjdaaSet
import Derived.Test.YthdfhijahkfjdaaBefAft
namespace Go.Proofs.Ythdfhijahkfjdaa
open Go Go.RowKit
set_option linter.unusedVariables false

theorem RetSpE.bad {w w' : World} {l : List Rg.Sn} {x y n : Int} (r : List Rg.Sn × Int) (he : r = ([], n)) (hb : Below w.heap.size w w') : RetSpE r w (.returned (.tuple #[.slice none 0 0, .int .i64 n])) w' := by
  subst he; exact RetSpE.none_ n hb

set_option maxHeartbeats 2000000 in
/-- replaced, by a list of at most one span. -/
theorem replaced_any (A : Option Addr) (c : Nat) (l : List Rg.Sn) (x y : Int) (A' : Option Addr) (m' c' : Nat) (ys : List Rg.Sn) (B : Nat) (w : World) (hr : Rd w B 3 A l.length (spans l)) (hr' : Rd w B 3 A' m' (spans ys)) (hBw : B ≤ w.heap.size)
    (hl : l.length ≤ 1000000000000000) (hm' : m' ≤ 1) (r : List Rg.Sn × Int)
    (h1 : Rg.err l x y = 1 → r = ([], 1)) (h3 : Rg.err l x y = 3 → r = ([], 3)) (h0 : Rg.err l x y = 0 → r = Rg.full (Rg.before l x ++ ys ++ Rg.after l y) ∧ Rg.Asc (-1) (Rg.before l x ++ ys ++ Rg.after l y)) :
    Calls Try.prog 41 #[.slice A l.length c, .int .i64 x, .int .i64 y, .slice A' m' c'] w (RetSpE r w) := by
  have HR := Lib.hid hr; clear hr
  have HR' := Lib.hid hr'; clear hr'
  by_cases hv : Rg.valid l = true
  · by_cases hx : x < 0 ∨ y < x ∨ 1114111 < y
    · have he := h3 (Rg.err_three hv hx)
      have HV := Lib.hid hv; have HE := Lib.hid he
      clear hv he h1 h3 h0
      go_enter Try.func41, Try.ntmps41
      go_wp2_with fail
      refine (rvalid_is A c l true HV.out B _ HR.out (by omega) (by omega)).mono ?_
      rintro e w1 ⟨rfl, hb1⟩
      have HB := Lib.hid (RetSpE.bad (l := l) (x := x) (y := y) r HE.out hb1); clear hb1
      have hx2 : x < 0 ∨ (0 ≤ x ∧ y < x) ∨ (0 ≤ x ∧ x ≤ y ∧ 1114111 < y) := by omega
      clear hx
      rcases hx2 with h | ⟨h1, h2⟩ | ⟨h1, h2, h3⟩
      all_goals
        go_wp2
        go_ret2
        exact HB.out
    · obtain ⟨he, hasc⟩ := h0 (Rg.err_none hv hx)
      obtain ⟨ha, hl2⟩ := Rg.asc_of_valid hv
      have hx2 : 0 ≤ x ∧ x ≤ y ∧ y ≤ 1114111 := by omega
      obtain ⟨g1, g2, g3⟩ := hx2
      have hbl := Rg.before_len l x
      have hal := Rg.after_len l y
      have HV := Lib.hid hv; have HE := Lib.hid he; have HA := Lib.hid hasc
      clear hv he h1 h3 h0 hx ha hasc
      go_enter Try.func41, Try.ntmps41
      go_wp2_with fail
      refine (rvalid_is A c l true HV.out B _ HR.out (by omega) (by omega)).mono ?_
      rintro e w1 ⟨rfl, hb1⟩
      have hsz1 := hb1.size
      have HB1 := Lib.hid hb1; clear hb1
      go_wp2_with fail
      refine (before_any A c l x B _ (HR.out.below (HB1.out.mono hBw)) (by omega) (by omega) (by omega) (by omega)).mono ?_
      rintro e w2 ⟨A2, c2, rfl, ho2, hb2⟩
      have hsz2 := hb2.size
      have HO2 := Lib.hid (own_low ho2 hsz1)
      have HB2 := Lib.hid (HB1.out.trans (hb2.mono hsz1))
      have HR2' := Lib.hid (HR'.out.below (HB2.out.mono hBw))
      clear ho2 hb2
      go_wp2_with (at_builtin; refine app_span (by rfl) _ _ rfl (base := w.heap.size) rfl HO2.out rfl HR2'.out (by omega) (by omega) ?_)
      intro A3 c3 w3 ho3 hg3 hc3
      have hsz3 := hg3.size
      have hb3 := HB2.out.grown hg3 (by omega) (fun q hq => (HO2.out.lt q hq).1)
      have HO3 := Lib.hid ho3
      have HB3 := Lib.hid hb3
      have HR3 := Lib.hid (HR.out.below (hb3.mono hBw))
      clear ho3 hg3 hc3 hb3
      go_wp2_with fail
      refine (after_any A c l y B _ HR3.out (by omega) (by omega) (by omega) (by omega)).mono ?_
      rintro e w4 ⟨A4, c4, rfl, ho4, hb4⟩
      have hsz4 := hb4.size
      have HR4 := Lib.hid (Rd.of_own ho4)
      have HO4 := Lib.hid (HO3.out.kept (only_below (only_refl w3 none) hb4) (by cases (Value.slice A3 ((Rg.before l x).length + m') c3).ownBlock <;> simp))
      have HB4 := Lib.hid (HB3.out.trans (hb4.mono (by omega)))
      clear ho4 hb4
      go_wp2_with (at_builtin; refine app_span (by rfl) _ _ rfl (base := w.heap.size) rfl HO4.out rfl HR4.out (by omega) (by omega) ?_)
      intro A5 c5 w5 ho5 hg5 hc5
      have hsz5 := hg5.size
      have hlen : (Rg.before l x ++ ys ++ Rg.after l y).length = (Rg.before l x).length + m' + (Rg.after l y).length := by
        have := rg_len HR2'.out
        simp; omega
      have hb5 := HB4.out.grown hg5 (by omega) (fun q hq => (HO4.out.lt q hq).1)
      rw [← List.append_assoc] at ho5
      have HO5 := Lib.hid (Rd.of_own ho5)
      have HB5 := Lib.hid hb5
      clear ho5 hg5 hc5 hb5
      have HLEN := Lib.hid hlen
      generalize hzs : Rg.before l x ++ ys ++ Rg.after l y = zs at *
      clear hzs hlen
      generalize hz : (Rg.before l x).length + m' + (Rg.after l y).length = z at *
      have hz2 : z ≤ 600 := by omega
      clear hz
      obtain rfl : zs.length = z := HLEN.out
      go_wp2_with fail
      refine (merged_any A5 c5 zs w5.heap.size _ HO5.out (Nat.le_refl _) (by omega) HA.out).mono ?_
      rintro e w6 h6
      have h6' := RetSp.up HB5.out h6
      have HF := Lib.hid (fun A m c (h : RetSp (Rg.mrg zs) w (.returned (.slice A m c)) w6) => h.full)
      have HP := Lib.hid h6'
      obtain ⟨A6, c6, rfl, _, _⟩ := h6
      have HG := Lib.hid (HF.out _ _ _ HP.out)
      have hml := Rg.mrg_len zs
      clear HF h6'
      generalize (Rg.mrg zs).length = m at *
      by_cases h256 : 256 < m
      · go_wp2
        go_ret2
        have hq := HG.out.1 h256
        rw [← HE.out] at hq
        exact hq
      · go_wp2
        go_ret2
        have hq := HG.out.2 (by omega)
        rw [← HE.out] at hq
        exact hq
  · have he := h1 (Rg.err_one hv)
    have hv' : Rg.valid l = false := by simpa using hv
    have HV := Lib.hid hv'; have HE := Lib.hid he
    clear hv hv' he h1 h3 h0
    go_enter Try.func41, Try.ntmps41
    go_wp2_with fail
    refine (rvalid_is A c l false HV.out B _ HR.out (by omega) (by omega)).mono ?_
    rintro e w1 ⟨rfl, hb1⟩
    have HB := Lib.hid (RetSpE.bad (l := l) (x := x) (y := y) r HE.out hb1); clear hb1
    go_wp2
    go_ret2
    exact HB.out

set_option maxHeartbeats 1000000 in
theorem rset_any (A : Option Addr) (c : Nat) (l : List Rg.Sn) (x y v : Int) (B : Nat) (w : World) (hr : Rd w B 3 A l.length (spans l)) (hBw : B ≤ w.heap.size) (hl : l.length ≤ 1000000000000000) :
    Calls Try.prog 36 #[.slice A l.length c, .int .i64 x, .int .i64 y, .int .i64 v] w (RetSpE (Rg.setP l x y v) w) := by
  have HR := Lib.hid hr; clear hr
  have HB0 := Lib.hid ((Below.refl w.heap.size w).alloc (Nat.le_refl _) (.cells #[.int .i64 x, .int .i64 y, .int .i64 v] 25))
  go_enter Try.func36, Try.ntmps36
  go_wp2_with fail
  refine (replaced_any A c l x y (some ⟨w.heap.size, 0, none⟩) 1 1 [⟨x, y, v⟩] (w.heap.size + 1) _ ((HR.out.below (HB0.out.mono hBw)).more (by omega)) (rd_one_span_at rfl ⟨x, y, v⟩) (by simp) hl (by omega) (Rg.setP l x y v)
    (fun h => Rg.setP_err h (by decide)) (fun h => Rg.setP_err h (by decide)) (fun h => ?_)).mono ?_
  · obtain ⟨hv, hx0, hxy, hy1⟩ := Rg.err_zero.1 h
    exact ⟨Rg.setP_zero h, Rg.rep_asc (s := ⟨x, y, v⟩) (Rg.asc_of_valid hv).1 (by show (-1 : Int) < x; omega) hxy hy1⟩
  rintro e w1 h1
  have HP := Lib.hid (RetSpE.up HB0.out h1)
  obtain ⟨A1, c1, rfl, _, _⟩ := h1
  go_wp2
  go_ret2
  exact HP.out

set_option maxHeartbeats 1000000 in
theorem rclear_any (A : Option Addr) (c : Nat) (l : List Rg.Sn) (x y : Int) (B : Nat) (w : World) (hr : Rd w B 3 A l.length (spans l)) (hBw : B ≤ w.heap.size) (hl : l.length ≤ 1000000000000000) :
    Calls Try.prog 37 #[.slice A l.length c, .int .i64 x, .int .i64 y] w (RetSpE (Rg.clearP l x y) w) := by
  have HR := Lib.hid hr; clear hr
  go_enter Try.func37, Try.ntmps37
  go_wp2_with fail
  refine (replaced_any A c l x y none 0 0 [] B _ HR.out (Rd.nil_ _ _ _ _) hBw hl (by omega) (Rg.clearP l x y)
    (fun h => Rg.clearP_err h (by decide)) (fun h => Rg.clearP_err h (by decide)) (fun h => ?_)).mono ?_
  · obtain ⟨hv, hx0, hxy, hy1⟩ := Rg.err_zero.1 h
    rw [List.append_nil]
    exact ⟨Rg.clearP_zero h, Rg.del_asc (Rg.asc_of_valid hv).1 (by omega) hxy⟩
  rintro e w1 h1
  have HP := Lib.hid h1
  obtain ⟨A1, c1, rfl, _, _⟩ := h1
  go_wp2
  go_ret2
  exact HP.out

theorem Rg.val_drop {l : List Rg.Sn} {k : Nat} {s : Rg.Sn} (hs : l[k]? = some s) (x : Int) : Rg.val (l.drop k) x = if s.f ≤ x ∧ x ≤ s.t then some s.v else Rg.val (l.drop (k + 1)) x := by
  obtain ⟨hk, rfl⟩ := List.getElem?_eq_some_iff.1 hs
  rw [List.drop_eq_getElem_cons hk, Rg.val_cons]
set_option maxHeartbeats 2000000 in
theorem rfind_any (A : Option Addr) (c : Nat) (l : List Rg.Sn) (x : Int) (B : Nat) (w : World) (hr : Rd w B 3 A l.length (spans l)) (hBw : B ≤ w.heap.size) (hl : l.length ≤ 1000000000000000) :
    Calls Try.prog 15 #[.slice A l.length c, .int .i64 x] w fun e w' => e = .returned (.tuple #[.int .i64 (Rg.findP l x).1, .bool (Rg.findP l x).2]) ∧ Below w.heap.size w w' := by
  have HR := Lib.hid hr; clear hr
  by_cases hv : Rg.valid l = true
  · have hfp := Rg.findP_yes hv x
    have HFP := Lib.hid hfp
    have HV := Lib.hid hv
    clear hv hfp
    go_enter Try.func15, Try.ntmps15
    go_wp2_with fail
    refine (rvalid_is A c l true HV.out B _ HR.out (by omega) (by omega)).mono ?_
    rintro e w1 ⟨rfl, hb1⟩
    have HB1 := Lib.hid hb1; clear hb1
    generalize hn : l.length = n at *
    have HN := Lib.hid hn; clear hn
    go_wp2_with fail
    go_loopw [13] (fun i wr => ∃ k : Nat, k ≤ n ∧ i = .int .i64 k ∧ Rg.val l x = Rg.val (l.drop k) x ∧ Below w.heap.size w wr) (fun i _ => n - (intOf i).toNat)
    case atStart => exact ⟨0, by omega, rfl, rfl, HB1.out⟩
    case round =>
      obtain ⟨k, hk, rfl, hva, hb⟩ := hrel
      have HVA := Lib.hid hva; have HB := Lib.hid hb
      clear hva hb
      by_cases hlt : k < n
      · obtain ⟨b, off, s, rfl, hbB, hs, h1, h2, h3⟩ := spans_cell (HR.out.below (HB.out.mono hBw)) hlt
        have hvd := Rg.val_drop hs x
        rw [← HVA.out] at hvd
        have HVD := Lib.hid hvd
        have HB2 := Lib.hid (HB.out.alloc HB.out.size (.cells #[.int .i64 s.f, .int .i64 s.t, .int .i64 s.v] 25))
        clear hvd hs HVA
        by_cases hc : s.f ≤ x ∧ x ≤ s.t
        · have hvd := HVD.out
          rw [if_pos hc] at hvd
          have hf : Rg.findP l x = (s.v, true) := by rw [HFP.out, hvd]; rfl
          have HF := Lib.hid hf
          obtain ⟨hc1, hc2⟩ := hc
          clear hvd hf HVD
          go_wp2
          go_ret2
          rw [HF.out]
          exact ⟨rfl, HB2.out⟩
        · have hvd := HVD.out
          rw [if_neg hc] at hvd
          have HV2 := Lib.hid hvd
          have hc2 : x < s.f ∨ (s.f ≤ x ∧ s.t < x) := by omega
          clear hvd HVD hc
          rcases hc2 with hc | ⟨hc1, hc2⟩
          all_goals
            go_wp2
            go_roundw
            case rel => exact ⟨k + 1, by omega, by go_num, HV2.out, HB2.out⟩
            case measure => simp [intOf]; omega
      · have hdn : l.drop k = [] := List.drop_eq_nil_of_le (by have := HN.out; omega)
        have hf : Rg.findP l x = (0, false) := by rw [HFP.out, HVA.out, hdn]; rfl
        have HF := Lib.hid hf
        clear hdn hf HVA
        go_wp2
        go_ret2
        rw [HF.out]
        exact ⟨rfl, HB.out⟩
  · have hfp := Rg.findP_no hv x
    have HFP := Lib.hid hfp
    have hv' : Rg.valid l = false := by simpa using hv
    have HV := Lib.hid hv'; clear hv hv' hfp
    go_enter Try.func15, Try.ntmps15
    go_wp2_with fail
    refine (rvalid_is A c l false HV.out B _ HR.out (by omega) (by omega)).mono ?_
    rintro e w1 ⟨rfl, hb1⟩
    have HB := Lib.hid hb1; clear hb1
    go_wp2
    go_ret2
    rw [HFP.out]
    exact ⟨rfl, HB.out⟩
theorem Rg.cnt_all {l : List Rg.Sn} (h : Rg.Asc (-1) l) (k : Nat) : 0 ≤ Rg.cnt (l.take k) ∧ Rg.cnt (l.take k) ≤ 1114112 := by
  have h1 := Rg.asc_take h k
  have h2 := Rg.cnt_bd h1 (by omega)
  have h3 := Rg.endT_hi h1 (by omega)
  omega

set_option maxHeartbeats 2000000 in
theorem count_any (A : Option Addr) (c : Nat) (l : List Rg.Sn) (B : Nat) (w : World) (hr : Rd w B 3 A l.length (spans l)) (hBw : B ≤ w.heap.size) (hl : l.length ≤ 1000000000000000) :
    Calls Try.prog 21 #[.slice A l.length c] w fun e w' => e = .returned (.int .i64 (Rg.countP l)) ∧ Below w.heap.size w w' := by
  have HR := Lib.hid hr; clear hr
  by_cases hv : Rg.valid l = true
  · have hfp : Rg.countP l = Rg.cnt l := by unfold Rg.countP; rw [if_pos hv]
    have HFP := Lib.hid hfp
    have HV := Lib.hid hv
    have HA := Lib.hid (Rg.asc_of_valid hv).1
    clear hv hfp
    go_enter Try.func21, Try.ntmps21
    go_wp2_with fail
    refine (valid_is A c l true HV.out B _ HR.out (by omega) (by omega)).mono ?_
    rintro e w1 ⟨rfl, hb1⟩
    have HB1 := Lib.hid hb1; clear hb1
    generalize hn : l.length = n at *
    have HN := Lib.hid hn; clear hn
    go_wp2_with fail
    go_loopw [3, 11] (fun v i wr => ∃ k : Nat, k ≤ n ∧ i = .int .i64 k ∧ v = .int .i64 (Rg.cnt (l.take k)) ∧ Below w.heap.size w wr) (fun _ i _ => n - (intOf i).toNat)
    case atStart => exact ⟨0, by omega, rfl, rfl, HB1.out⟩
    case round =>
      obtain ⟨k, hk, rfl, rfl, hb⟩ := hrel
      have HB := Lib.hid hb
      clear hb
      have hbd := Rg.cnt_all HA.out k
      by_cases hlt : k < n
      · obtain ⟨b, off, s, rfl, hbB, hs, h1, h2, h3⟩ := spans_cell (HR.out.below (HB.out.mono hBw)) hlt
        obtain ⟨sb1, sb2, sb3⟩ := Rg.asc_at HA.out hs
        have hct := Rg.cnt_take l k s hs
        have HCT := Lib.hid hct
        have HB2 := Lib.hid (HB.out.alloc HB.out.size (.cells #[.int .i64 s.f, .int .i64 s.t, .int .i64 s.v] 25))
        clear hct hs
        obtain ⟨hbd1, hbd2⟩ := hbd
        generalize Rg.cnt (l.take k) = q at *
        go_wp2
        go_roundw
        case rel => exact ⟨k + 1, by omega, by go_num, by rw [HCT.out], HB2.out⟩
        case measure => simp [intOf]; omega
      · have hdn : l.take k = l := List.take_of_length_le (by have := HN.out; omega)
        rw [hdn]
        clear hdn
        go_wp2
        go_ret
        rw [HFP.out]
        exact ⟨rfl, HB.out⟩
  · have hfp : Rg.countP l = 0 := by unfold Rg.countP; rw [if_neg hv]
    have HFP := Lib.hid hfp
    have hv' : Rg.valid l = false := by simpa using hv
    have HV := Lib.hid hv'; clear hv hv' hfp
    go_enter Try.func21, Try.ntmps21
    go_wp2_with fail
    refine (valid_is A c l false HV.out B _ HR.out (by omega) (by omega)).mono ?_
    rintro e w1 ⟨rfl, hb1⟩
    have HB := Lib.hid hb1; clear hb1
    go_wp2
    go_ret
    rw [HFP.out]
    exact ⟨rfl, HB.out⟩

set_option maxHeartbeats 2000000 in
theorem rcount_any (A : Option Addr) (c : Nat) (l : List Rg.Sn) (B : Nat) (w : World) (hr : Rd w B 3 A l.length (spans l)) (hBw : B ≤ w.heap.size) (hl : l.length ≤ 1000000000000000) :
    Calls Try.prog 22 #[.slice A l.length c] w fun e w' => e = .returned (.int .i64 (Rg.countP l)) ∧ Below w.heap.size w w' := by
  have HR := Lib.hid hr; clear hr
  by_cases hv : Rg.valid l = true
  · have hfp : Rg.countP l = Rg.cnt l := by unfold Rg.countP; rw [if_pos hv]
    have HFP := Lib.hid hfp
    have HV := Lib.hid hv
    have HA := Lib.hid (Rg.asc_of_valid hv).1
    clear hv hfp
    go_enter Try.func22, Try.ntmps22
    go_wp2_with fail
    refine (rvalid_is A c l true HV.out B _ HR.out (by omega) (by omega)).mono ?_
    rintro e w1 ⟨rfl, hb1⟩
    have HB1 := Lib.hid hb1; clear hb1
    generalize hn : l.length = n at *
    have HN := Lib.hid hn; clear hn
    go_wp2_with fail
    go_loopw [3, 11] (fun v i wr => ∃ k : Nat, k ≤ n ∧ i = .int .i64 k ∧ v = .int .i64 (Rg.cnt (l.take k)) ∧ Below w.heap.size w wr) (fun _ i _ => n - (intOf i).toNat)
    case atStart => exact ⟨0, by omega, rfl, rfl, HB1.out⟩
    case round =>
      obtain ⟨k, hk, rfl, rfl, hb⟩ := hrel
      have HB := Lib.hid hb
      clear hb
      have hbd := Rg.cnt_all HA.out k
      by_cases hlt : k < n
      · obtain ⟨b, off, s, rfl, hbB, hs, h1, h2, h3⟩ := spans_cell (HR.out.below (HB.out.mono hBw)) hlt
        obtain ⟨sb1, sb2, sb3⟩ := Rg.asc_at HA.out hs
        have hct := Rg.cnt_take l k s hs
        have HCT := Lib.hid hct
        have HB2 := Lib.hid (HB.out.alloc HB.out.size (.cells #[.int .i64 s.f, .int .i64 s.t, .int .i64 s.v] 25))
        clear hct hs
        obtain ⟨hbd1, hbd2⟩ := hbd
        generalize Rg.cnt (l.take k) = q at *
        go_wp2
        go_roundw
        case rel => exact ⟨k + 1, by omega, by go_num, by rw [HCT.out], HB2.out⟩
        case measure => simp [intOf]; omega
      · have hdn : l.take k = l := List.take_of_length_le (by have := HN.out; omega)
        rw [hdn]
        clear hdn
        go_wp2
        go_ret
        rw [HFP.out]
        exact ⟨rfl, HB.out⟩
  · have hfp : Rg.countP l = 0 := by unfold Rg.countP; rw [if_neg hv]
    have HFP := Lib.hid hfp
    have hv' : Rg.valid l = false := by simpa using hv
    have HV := Lib.hid hv'; clear hv hv' hfp
    go_enter Try.func22, Try.ntmps22
    go_wp2_with fail
    refine (rvalid_is A c l false HV.out B _ HR.out (by omega) (by omega)).mono ?_
    rintro e w1 ⟨rfl, hb1⟩
    have HB := Lib.hid hb1; clear hb1
    go_wp2
    go_ret
    rw [HFP.out]
    exact ⟨rfl, HB.out⟩
end Go.Proofs.Ythdfhijahkfjdaa
