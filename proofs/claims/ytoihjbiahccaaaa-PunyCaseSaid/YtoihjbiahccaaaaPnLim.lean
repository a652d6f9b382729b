/- The walk of the law PunyLimits. -/
import Derived.Test.YtoihjbiahccaaaaPnAw
namespace Go.Proofs.Ytoihjbiahccaaaa
open Go Go.RowKit
set_option linter.unusedVariables false

theorem made_at (z : Value) (n j : Nat) (hj : j < n) : (madeCells #[z] n)[j]? = some z := by simp [madeCells, hj, Nat.mod_one]
/-- Block g has n cells, the first k of them hold v. -/
def Filled (w : World) (g : Nat) (t : TypeId) (n k : Nat) (v : Value) : Prop := ∃ cs : Array Value, Bk w g t cs ∧ cs.size = n ∧ ∀ j, j < k → cs[j]? = some v
theorem Filled.at_ {w : World} {g : Nat} {t : TypeId} {n k : Nat} {v : Value} (h : Filled w g t n k v) (j : Nat) (hj : j < n) : ∃ u, w.cell? ⟨g, j, none⟩ = some u ∧ w.frozen? ⟨g, j, none⟩ = false := by
  obtain ⟨cs, h1, h2, _⟩ := h
  exact ⟨cs[j]'(by omega), by rw [h1.cell, Array.getElem?_eq_getElem (by omega)], h1.frozen j⟩
theorem Filled.put {w : World} {g : Nat} {t : TypeId} {n k : Nat} {v : Value} (h : Filled w g t n k v) (hk : k < n) : Filled (w.setCell ⟨g, k, none⟩ v) g t n (k + 1) v := by
  obtain ⟨cs, h1, h2, h3⟩ := h
  refine ⟨_, h1.set_ k v, by simp [h2], fun j hj => ?_⟩
  by_cases e : j = k
  · subst e; rw [Array.getElem?_setIfInBounds]; simp; omega
  · rw [Array.getElem?_setIfInBounds_ne (by omega)]; exact h3 j (by omega)
theorem Filled.far {w : World} {g : Nat} {t : TypeId} {n k : Nat} {v : Value} (h : Filled w g t n k v) {p : Addr} (hp : g ≠ p.block) (u : Value) : Filled (w.setCell p u) g t n k v := by
  obtain ⟨cs, h1, h2, h3⟩ := h
  exact ⟨cs, h1.far hp u, h2, h3⟩
theorem Filled.rd {w : World} {g : Nat} {t : TypeId} {n : Nat} {x : Int} (h : Filled w g t n n (.int .i64 x)) : Rd w (g + 1) 1 (some ⟨g, 0, none⟩) (List.replicate n x).length (ints (List.replicate n x)) := by
  obtain ⟨cs, h1, h2, h3⟩ := h
  refine ⟨by rw [ints_length]; omega, fun _ => ⟨g, 0, rfl, by omega, fun j u hu => ?_⟩⟩
  have hj := (List.getElem?_eq_some_iff.1 hu).1
  rw [ints_length, List.length_replicate] at hj
  rw [ints_at, List.getElem?_replicate, if_pos hj] at hu
  rw [h1.cell, Nat.zero_add, h3 j hj]; exact hu
def Dash (w : World) (g m : Nat) : Prop := ∃ cs : Array Value, Bk w g 5 cs ∧ cs.size = m + 1 ∧ (∀ j, j < m → cs[j]? = some (.int .u8 97)) ∧ cs[m]? = some (.int .u8 45)
theorem Filled.dash {w : World} {g m : Nat} (h : Filled w g 5 (m + 1) (m + 1) (.int .u8 97)) : Dash (w.setCell ⟨g, m, none⟩ (.int .u8 45)) g m := by
  obtain ⟨cs, h1, h2, h3⟩ := h
  refine ⟨_, h1.set_ m (.int .u8 45), by simp [h2], fun j hj => ?_, ?_⟩
  · rw [Array.getElem?_setIfInBounds_ne (by omega)]; exact h3 j (by omega)
  · rw [Array.getElem?_setIfInBounds]
    have hlt : m < cs.size := by omega
    simp [hlt]
theorem Dash.below {w w' : World} {g m B : Nat} (h : Dash w g m) (hb : Below B w w') (hg : g < B) : Dash w' g m := by
  obtain ⟨cs, h1, h2⟩ := h
  exact ⟨cs, h1.below hb hg, h2⟩
theorem Dash.lt {w : World} {g m : Nat} (h : Dash w g m) : g < w.heap.size := by obtain ⟨cs, h1, _⟩ := h; exact h1.lt
theorem Dash.conv {w : World} {g m : Nat} (h : Dash w g m) :
    (convert 38 9 (.slice (some ⟨g, 0, none⟩) (m + 1) (m + 1))).run Try.prog w = .ok (.string (str (List.replicate m 97 ++ [45]))) w := by
  obtain ⟨cs, h1, h2, h3, h4⟩ := h
  have := run_convert_bytes_back (P := Try.prog) w 38 9 5 ⟨g, 0, none⟩ (m + 1) (List.replicate m 97 ++ [45]) Try.underlying38 Try.underlying5 Try.underlying9 (fun j hj => by
    rw [addp, Nat.zero_add, h1.cell]
    simp at hj
    by_cases e : j = m
    · subst e
      rw [h4]; simp
    · rw [h3 j (by omega), List.getElem_append_left (by simp; omega)]; simp)
  simpa [str] using this
theorem rep_scalar (n : Nat) (x : Int) (h : Pn.scalar x = true) : ∀ c ∈ List.replicate n x, Pn.scalar c = true := by
  intro c hc; rw [(List.mem_replicate.1 hc).2]; exact h
theorem decP_dash (m : Nat) (h0 : 0 < m) (h1 : m + 1 ≤ 2048) : Pn.decP (List.replicate m 97 ++ [45]) = (Pn.nums (List.replicate m 97), 0) := by
  have hl : Pn.lastD (List.replicate m 97 ++ [45]) = m := by
    have := Pn.lastD_split (List.replicate m 97) [] (by simp)
    rw [List.append_nil, List.length_replicate] at this
    exact this
  unfold Pn.decP
  rw [hl, if_neg (by simp; omega), if_pos h0]
  have ht : (List.replicate m (97 : UInt8) ++ [45]).take m = List.replicate m 97 := by rw [List.take_left' (by simp)]
  have hd : (List.replicate m (97 : UInt8) ++ [45]).drop (m + 1) = [] := by rw [List.drop_of_length_le (by simp)]
  have ha : Pn.ascii (List.replicate m 97) = true := by unfold Pn.ascii; rw [List.all_eq_true]; intro b hb; rw [(List.mem_replicate.1 hb).2]; decide
  rw [ht, hd, if_pos ha]
  unfold Pn.dec
  rw [if_pos rfl]
theorem decP_dash_long (m : Nat) (h1 : 2048 < m + 1) : Pn.decP (List.replicate m 97 ++ [45]) = ([], 7) := decP_long (by simp; omega)
set_option maxRecDepth 100000 in
set_option maxHeartbeats 8000000 in
theorem walk_PunyLimits (a0 : Int) (w : World) (w0 : (Lit.int .i64 a0).wf = true) :
    Calls Try.prog 10 #[.int .i64 a0] w fun e w' => e = .returned (.bool true) ∧ Below w.heap.size w w' := by
  clear w0
  have p0 := Kp.pick_lo a0 3 (by omega)
  have p1 := Kp.pick_hi a0 3 (by omega)
  obtain ⟨q, hq⟩ : ∃ q : Nat, (q : Int) = Kp.pick a0 3 := ⟨(Kp.pick a0 3).toNat, by omega⟩
  have hq2 : q ≤ 2 := by omega
  have hmi := run_make_row' (P := Try.prog) 22 3 (.int .i64 0) 8 Try.underlying22 info_int rfl .i64 .i64 (255 + q) (by omega) (by omega)
  have hmb := run_make_row' (P := Try.prog) 38 5 (.int .u8 0) 1 Try.underlying38 info_u8 rfl .i64 .i64 (2047 + q) (by omega) (by omega)
  have c1 : ((255 + q : Nat) : Int) = 255 + (q : Int) := by omega
  have c2 : ((2047 + q : Nat) : Int) = 2047 + (q : Int) := by omega
  rw [c1] at hmi
  rw [c2] at hmb
  have HQ := Lib.hid hq
  clear hq p0 p1 c1 c2
  go_enter Try.func10, Try.ntmps10
  go_wp2_with fail
  refine (pick_any a0 3 (by omega) (by omega) _).mono ?_
  rintro e w9 ⟨rfl, hpw⟩
  subst hpw
  rw [← HQ.out]
  have e1 : (256 : Int) + ((q : Int) - 1) = 255 + (q : Int) := by omega
  have e2 : (2048 : Int) + ((q : Int) - 1) = 2047 + (q : Int) := by omega
  go_wp2_with fail
  clear e1 e2 hmi hmb
  have hfl : Filled ((w.alloc (.cells (madeCells #[.int .i64 0] (255 + q)) 3)).alloc (.cells (madeCells #[.int .u8 0] (2047 + q)) 5)) w.heap.size 3 (255 + q) 0 (.int .i64 97) :=
    ⟨_, (Bk.new w _ _).alloc _, by simp [madeCells], fun j hj => by omega⟩
  have hfb : Filled ((w.alloc (.cells (madeCells #[.int .i64 0] (255 + q)) 3)).alloc (.cells (madeCells #[.int .u8 0] (2047 + q)) 5)) (w.heap.size + 1) 5 (2047 + q) 0 (.int .u8 97) :=
    ⟨_, by simpa using Bk.new (w.alloc (.cells (madeCells #[.int .i64 0] (255 + q)) 3)) 5 _, by simp [madeCells], fun j hj => by omega⟩
  have hbl : Below w.heap.size w ((w.alloc (.cells (madeCells #[.int .i64 0] (255 + q)) 3)).alloc (.cells (madeCells #[.int .u8 0] (2047 + q)) 5)) := ((Below.refl _ w).alloc (Nat.le_refl _) _).alloc (by simp) _
  have hsz : ((w.alloc (.cells (madeCells #[.int .i64 0] (255 + q)) 3)).alloc (.cells (madeCells #[.int .u8 0] (2047 + q)) 5)).heap.size = w.heap.size + 2 := by simp
  generalize (w.alloc (.cells (madeCells #[.int .i64 0] (255 + q)) 3)).alloc (.cells (madeCells #[.int .u8 0] (2047 + q)) 5) = w1 at *
  have HFL := Lib.hid hfl; have HFB := Lib.hid hfb; have HBL := Lib.hid hbl; have HSZ := Lib.hid hsz
  clear hfl hfb hbl hsz
  go_loopw [23] (fun vi wr => ∃ k : Nat, k ≤ 255 + q ∧ vi = .int .i64 k ∧ Filled wr w.heap.size 3 (255 + q) k (.int .i64 97) ∧ Filled wr (w.heap.size + 1) 5 (2047 + q) 0 (.int .u8 97) ∧ Below w.heap.size w wr) (fun vi _ => 255 + q - (intOf vi).toNat)
  case atStart => exact ⟨0, by omega, rfl, HFL.out, HFB.out, HBL.out⟩
  case round =>
    obtain ⟨k, hk, rfl, hf1, hf2, hb⟩ := hrel
    by_cases hlt : k < 255 + q
    · obtain ⟨u, hu, hfz⟩ := hf1.at_ k hlt
      have HF1 := Lib.hid (hf1.put hlt)
      have HF2 := Lib.hid (hf2.far (p := ⟨w.heap.size, k, none⟩) (by show w.heap.size + 1 ≠ w.heap.size; omega) (.int .i64 97))
      have HB := Lib.hid (hb.setCell (p := ⟨w.heap.size, k, none⟩) (Nat.le_refl _) (.int .i64 97))
      clear hf1 hf2 hb
      have hki : (k : Int) < 255 + (q : Int) := by omega
      go_wp2
      go_roundw
      case rel => exact ⟨k + 1, by omega, by go_num, HF1.out, HF2.out, HB.out⟩
      case measure => simp [intOf]; omega
    · have hkn : k = 255 + q := by omega
      subst hkn
      have HF1 := Lib.hid hf1; have HF2 := Lib.hid hf2; have HB := Lib.hid hb
      clear hf1 hf2 hb hlt hk HFL HFB HBL
      have hki : ¬ (255 + (q : Int) < 255 + (q : Int)) := by omega
      go_wp2_with fail
      go_loopw [32] (fun vi wx => ∃ k : Nat, k ≤ 2047 + q ∧ vi = .int .i64 k ∧ Filled wx w.heap.size 3 (255 + q) (255 + q) (.int .i64 97) ∧ Filled wx (w.heap.size + 1) 5 (2047 + q) k (.int .u8 97) ∧ Below w.heap.size w wx) (fun vi _ => 2047 + q - (intOf vi).toNat)
      case atStart => exact ⟨0, by omega, rfl, HF1.out, HF2.out, HB.out⟩
      case round =>
        obtain ⟨k, hk, rfl, hf1, hf2, hb⟩ := hrel
        by_cases hlt : k < 2047 + q
        · obtain ⟨u, hu, hfz⟩ := hf2.at_ k hlt
          have HG2 := Lib.hid (hf2.put hlt)
          have HG1 := Lib.hid (hf1.far (p := ⟨w.heap.size + 1, k, none⟩) (by show w.heap.size ≠ w.heap.size + 1; omega) (.int .u8 97))
          have HGB := Lib.hid (hb.setCell (p := ⟨w.heap.size + 1, k, none⟩) (by show w.heap.size ≤ w.heap.size + 1; omega) (.int .u8 97))
          clear hf1 hf2 hb
          have hki : (k : Int) < 2047 + (q : Int) := by omega
          go_wp2
          go_roundw
          case rel => exact ⟨k + 1, by omega, by go_num, HG1.out, HG2.out, HGB.out⟩
          case measure => simp [intOf]; omega
        · have hkn : k = 2047 + q := by omega
          subst hkn
          obtain ⟨u, hu, hfz⟩ := hf2.at_ (2046 + q) (by omega)
          have HDA := Lib.hid (Filled.dash (m := 2046 + q) (by rw [show 2046 + q + 1 = 2047 + q by omega]; exact hf2))
          have HG1 := Lib.hid (hf1.far (p := ⟨w.heap.size + 1, 2046 + q, none⟩) (by show w.heap.size ≠ w.heap.size + 1; omega) (.int .u8 45))
          have HGB := Lib.hid (hb.setCell (p := ⟨w.heap.size + 1, 2046 + q, none⟩) (by show w.heap.size ≤ w.heap.size + 1; omega) (.int .u8 45))
          clear hf1 hf2 hb hlt hk HF1 HF2 HB
          have e3 : 2047 + (q : Int) - 1 = 2046 + (q : Int) := by omega
          have e4 : (2046 + (q : Int)).toNat = 2046 + q := by omega
          go_wp2_with fail
          clear e3 e4 hu hfz
          generalize wr.setCell ⟨w.heap.size + 1, 2046 + q, none⟩ (.int .u8 45) = W at *
          have hsW : w.heap.size + 1 ≤ W.heap.size := by
            obtain ⟨cs, h1, _⟩ := HG1.out; exact h1.lt
          have hct := encode_any (some ⟨w.heap.size, 0, none⟩) (255 + q) (List.replicate (255 + q) 97) (w.heap.size + 1) W HG1.out.rd hsW (by simp; omega)
          rw [List.length_replicate] at hct
          have hdd := fun w => decode_any (str (List.replicate (2046 + q) 97 ++ [45])) (by rw [str_size]; simp; omega) w
          rw [lst_str] at hdd
          have hq3 : q = 2 ∨ q ≤ 1 := by omega
          rcases hq3 with rfl | hq1
          · rw [encP_long (by simp)] at hct
            rw [decP_dash_long _ (by omega)] at hdd
            have HDD := Lib.hid hdd; clear hdd
            refine hct.mono ?_
            clear hct
            rintro e w3 ⟨rfl, hb3⟩
            have hsz3 := hb3.size
            have hcv3 := (HDA.out.below hb3 HDA.out.lt).conv
            rw [show 2046 + 2 + 1 = 2047 + 2 by omega] at hcv3
            have HB3 := Lib.hid (HGB.out.trans (hb3.mono (by omega)))
            clear hb3
            go_wp2_with fail
            refine (HDD.out _).mono ?_
            rintro e w4 ⟨A4, c4, rfl, _, hb4⟩
            have HB4 := Lib.hid (HB3.out.trans (hb4.mono (by omega)))
            clear hb4 hcv3
            go_wp2_with fail
            refine (awake10_any _).mono ?_
            rintro e w5 ⟨rfl, hb5⟩
            have hsz5 := HB4.out.size
            have HB5 := Lib.hid (HB4.out.trans (hb5.mono (by omega)))
            clear hb5
            go_wp2
            go_ret
            first
              | exact ⟨rfl, HB5.out⟩
              | exact ⟨by simp; omega, HB5.out⟩
          · rw [encP_good (by simp; omega) (rep_scalar _ 97 (by decide))] at hct
            rw [decP_dash _ (by omega) (by omega)] at hdd
            have HDD := Lib.hid hdd; clear hdd
            refine hct.mono ?_
            clear hct
            rintro e w3 ⟨rfl, hb3⟩
            have hsz3 := hb3.size
            have hcv3 := (HDA.out.below hb3 HDA.out.lt).conv
            rw [show 2046 + q + 1 = 2047 + q by omega] at hcv3
            have HB3 := Lib.hid (HGB.out.trans (hb3.mono (by omega)))
            clear hb3
            go_wp2_with fail
            refine (HDD.out _).mono ?_
            rintro e w4 ⟨A4, c4, rfl, _, hb4⟩
            have HB4 := Lib.hid (HB3.out.trans (hb4.mono (by omega)))
            clear hb4 hcv3
            have hnl : (Pn.nums (List.replicate (2046 + q) 97)).length = 2046 + q := by rw [nums_len]; simp
            try rw [hnl]
            have hk1 : ¬ (0 < (q : Int) - 1) := by omega
            have hk2 : (q : Int) - 1 ≤ 0 := by omega
            clear hnl
            go_wp2_with fail
            refine (awake10_any _).mono ?_
            rintro e w5 ⟨rfl, hb5⟩
            have hsz5 := HB4.out.size
            have HB5 := Lib.hid (HB4.out.trans (hb5.mono (by omega)))
            clear hb5
            go_wp2
            go_ret
            first
              | exact ⟨rfl, HB5.out⟩
              | exact ⟨by simp; omega, HB5.out⟩
end Go.Proofs.Ytoihjbiahccaaaa
