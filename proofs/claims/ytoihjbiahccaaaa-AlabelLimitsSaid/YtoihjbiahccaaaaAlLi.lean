/- The walk of the law AlabelLimits. -/
import Derived.Test.YtoihjbiahccaaaaAlLL
import Derived.Test.YtoihjbiahccaaaaPnLim
import Derived.Test.YtoihjbiahccaaaaSamK
namespace Go.Proofs.Ytoihjbiahccaaaa
open Go Go.RowKit
set_option linter.unusedVariables false

theorem Filled.below {w w' : World} {g n k B : Nat} {t : TypeId} {v : Value} (h : Filled w g t n k v) (hb : Below B w w') (hg : g < B) : Filled w' g t n k v := by
  obtain ⟨cs, h1, h2⟩ := h
  exact ⟨cs, h1.below hb hg, h2⟩
theorem Filled.lt {w : World} {g n k : Nat} {t : TypeId} {v : Value} (h : Filled w g t n k v) : g < w.heap.size := by obtain ⟨cs, h1, _⟩ := h; exact h1.lt
theorem Filled.conv {w : World} {g n : Nat} {b : UInt8} {x : Int} (h : Filled w g 5 n n (.int .u8 x)) (hx : (b.toNat : Int) = x) :
    (convert 38 9 (.slice (some ⟨g, 0, none⟩) n n)).run Try.prog w = .ok (.string (str (List.replicate n b))) w := by
  subst hx
  obtain ⟨cs, h1, h2, h3⟩ := h
  have := run_convert_bytes_back (P := Try.prog) w 38 9 5 ⟨g, 0, none⟩ n (List.replicate n b) Try.underlying38 Try.underlying5 Try.underlying9 (fun j hj => by
    rw [addp, Nat.zero_add, h1.cell]
    simp at hj
    rw [h3 j hj]; simp)
  simpa [str] using this
theorem low_rep (n : Nat) (b : UInt8) (h : 97 ≤ b.toNat) : Al.low (List.replicate n b) = List.replicate n b := by
  unfold Al.low
  rw [List.map_replicate, Al.lb_else (by omega)]
theorem isX_rep (n : Nat) (b : UInt8) (h : 97 ≤ b.toNat) : Al.isX (List.replicate n b) = false := by
  unfold Al.isX
  rw [Bool.and_eq_false_iff]
  by_cases h4 : 4 ≤ n
  · right
    rw [Al.low_take, low_rep n b h, List.take_replicate, Nat.min_eq_left h4]
    apply decide_eq_false
    intro e
    simp [List.replicate] at e
    obtain ⟨e1, e2, e3⟩ := e
    subst e3
    revert h; decide
  · left; simp; omega
theorem ascii_rep (n : Nat) (b : UInt8) (h : b.toNat < 128) : Pn.ascii (List.replicate n b) = true := by
  unfold Pn.ascii
  rw [List.all_eq_true]
  intro c hc
  rw [(List.mem_replicate.1 hc).2]
  simpa using h
theorem pts_rep (n : Nat) (b : UInt8) (h : 97 ≤ b.toNat) (h2 : b.toNat < 128) (h0 : 0 < n) : Al.pts (List.replicate n b) = if 63 < n then ([], 11) else (List.replicate n (b.toNat : Int), 0) := by
  unfold Al.pts
  rw [List.length_replicate, if_neg (by omega), if_pos (ascii_rep n b h2), isX_rep n b h]
  by_cases h3 : 63 < n
  · rw [if_pos h3, if_pos h3]
  · rw [if_neg h3, if_neg h3, if_neg (by simp)]
    unfold Pn.nums
    rw [List.map_replicate]
theorem lab_rep (n : Nat) (b : UInt8) (h2 : b.toNat < 128) (h0 : 0 < n) : Al.lab (List.replicate n (b.toNat : Int)) = if 63 < n then ([], 11) else (List.replicate n b, 0) := by
  have ha : Al.ascii (List.replicate n (b.toNat : Int)) = true := by
    unfold Al.ascii
    rw [List.all_eq_true]
    intro c hc
    rw [(List.mem_replicate.1 hc).2]
    simp; omega
  rw [Al.lab_asc (by simp; omega) ha, List.length_replicate]
  by_cases h3 : 63 < n
  · rw [if_pos h3, if_pos h3]
  · rw [if_neg h3, if_neg h3, List.map_replicate]
    have : Pn.byte (b.toNat : Int) = b := by simp [Pn.byte]
    rw [this]
set_option maxRecDepth 100000 in
set_option maxHeartbeats 8000000 in
theorem walk_AlabelLimits (a0 a1 : Int) (w : World) (w0 : (Lit.int .i64 a0).wf = true) (w1 : (Lit.int .i64 a1).wf = true) :
    Calls Try.prog 14 #[.int .i64 a0, .int .i64 a1] w fun e w' => e = .returned (.bool true) ∧ Below w.heap.size w w' := by
  clear w0 w1
  have p0 := Kp.pick_lo a0 3 (by omega)
  have p1 := Kp.pick_hi a0 3 (by omega)
  have r0 := Kp.pick_lo a1 26 (by omega)
  have r1 := Kp.pick_hi a1 26 (by omega)
  obtain ⟨q, hq⟩ : ∃ q : Nat, (q : Int) = Kp.pick a0 3 := ⟨(Kp.pick a0 3).toNat, by omega⟩
  have hq2 : q ≤ 2 := by omega
  have PK := Lib.hid (fun w => pick_any a1 26 (by omega) (by omega) w)
  obtain ⟨b, hb1, hb2, hb3⟩ : ∃ b : UInt8, (b.toNat : Int) = 97 + Kp.pick a1 26 ∧ 97 ≤ b.toNat ∧ b.toNat < 128 := by
    refine ⟨UInt8.ofNat (97 + Kp.pick a1 26).toNat, ?_, ?_, ?_⟩
    all_goals
      rw [UInt8.toNat_ofNat']
      omega
  have hmi := run_make_row' (P := Try.prog) 22 3 (.int .i64 0) 8 Try.underlying22 info_int rfl .i64 .i64 (62 + q) (by omega) (by omega)
  have hmb := run_make_row' (P := Try.prog) 38 5 (.int .u8 0) 1 Try.underlying38 info_u8 rfl .i64 .i64 (62 + q) (by omega) (by omega)
  have c1 : ((62 + q : Nat) : Int) = 62 + (q : Int) := by omega
  rw [c1] at hmi hmb
  have HQ := Lib.hid hq
  have hlab := lab_rep (62 + q) b hb3 (by omega)
  have hpts := pts_rep (62 + q) b hb2 hb3 (by omega)
  have HLA := Lib.hid hlab; have HPT := Lib.hid hpts
  generalize hr : Kp.pick a1 26 = r at *
  have HPB := Lib.hid hb1
  clear hq p0 p1 c1 hlab hpts hr hb1 hb2 hb3
  go_enter Try.func14, Try.ntmps14
  go_wp2_with fail
  refine (pick_any a0 3 (by omega) (by omega) _).mono ?_
  rintro e w9 ⟨rfl, hpw⟩
  subst hpw
  rw [← HQ.out]
  have e1 : (63 : Int) + (q : Int) - 1 = 62 + (q : Int) := by omega
  go_wp2_with fail
  clear e1 hmi hmb
  have hfl : Filled ((w.alloc (.cells (madeCells #[.int .i64 0] (62 + q)) 3)).alloc (.cells (madeCells #[.int .u8 0] (62 + q)) 5)) w.heap.size 3 (62 + q) 0 (.int .i64 (97 + r)) :=
    ⟨_, (Bk.new w _ _).alloc _, by simp [madeCells], fun j hj => by omega⟩
  have hfb : Filled ((w.alloc (.cells (madeCells #[.int .i64 0] (62 + q)) 3)).alloc (.cells (madeCells #[.int .u8 0] (62 + q)) 5)) (w.heap.size + 1) 5 (62 + q) 0 (.int .u8 (97 + r)) :=
    ⟨_, by simpa using Bk.new (w.alloc (.cells (madeCells #[.int .i64 0] (62 + q)) 3)) 5 _, by simp [madeCells], fun j hj => by omega⟩
  have hbl : Below w.heap.size w ((w.alloc (.cells (madeCells #[.int .i64 0] (62 + q)) 3)).alloc (.cells (madeCells #[.int .u8 0] (62 + q)) 5)) := ((Below.refl _ w).alloc (Nat.le_refl _) _).alloc (by simp) _
  have hsz : ((w.alloc (.cells (madeCells #[.int .i64 0] (62 + q)) 3)).alloc (.cells (madeCells #[.int .u8 0] (62 + q)) 5)).heap.size = w.heap.size + 2 := by simp
  generalize (w.alloc (.cells (madeCells #[.int .i64 0] (62 + q)) 3)).alloc (.cells (madeCells #[.int .u8 0] (62 + q)) 5) = w1 at *
  have HFL := Lib.hid hfl; have HFB := Lib.hid hfb; have HBL := Lib.hid hbl; have HSZ := Lib.hid hsz
  clear hfl hfb hbl hsz
  go_loopw [23] (fun vi wr => ∃ k : Nat, k ≤ 62 + q ∧ vi = .int .i64 k ∧ Filled wr w.heap.size 3 (62 + q) k (.int .i64 (97 + r)) ∧ Filled wr (w.heap.size + 1) 5 (62 + q) k (.int .u8 (97 + r)) ∧ Below w.heap.size w wr) (fun vi _ => 62 + q - (intOf vi).toNat)
  case atStart => exact ⟨0, by omega, rfl, HFL.out, HFB.out, HBL.out⟩
  case round =>
    obtain ⟨k, hk, rfl, hf1, hf2, hb⟩ := hrel
    by_cases hlt : k < 62 + q
    · obtain ⟨u, hu, hfz⟩ := hf1.at_ k hlt
      obtain ⟨u2, hu2, hfz2⟩ := hf2.at_ k hlt
      have HF1 := Lib.hid ((hf1.put hlt).far (p := ⟨w.heap.size + 1, k, none⟩) (by show w.heap.size ≠ w.heap.size + 1; omega) (.int .u8 (97 + r)))
      have HF2 := Lib.hid (hf2.far (p := ⟨w.heap.size, k, none⟩) (by show w.heap.size + 1 ≠ w.heap.size; omega) (.int .i64 (97 + r)))
      have HF3 := Lib.hid (HF2.out.put hlt)
      have HB := Lib.hid ((hb.setCell (p := ⟨w.heap.size, k, none⟩) (Nat.le_refl _) (.int .i64 (97 + r))).setCell (p := ⟨w.heap.size + 1, k, none⟩) (by show w.heap.size ≤ w.heap.size + 1; omega) (.int .u8 (97 + r)))
      clear hf1 hf2 hb
      have hki : (k : Int) < 62 + (q : Int) := by omega
      have t2 : IntKind.u8.wrap (97 + r) = 97 + r := by rw [IntKind.wrap_u8]; omega
      go_wp2_with fail
      refine (PK.out _).mono ?_
      rintro e w9 ⟨rfl, hpw⟩
      subst hpw
      go_wp2_with fail
      refine (PK.out _).mono ?_
      rintro e w9 ⟨rfl, hpw⟩
      subst hpw
      obtain ⟨u3, hu3, hfz3⟩ := HF2.out.at_ k hlt
      go_wp2
      go_roundw
      case rel => exact ⟨k + 1, by omega, by go_num, HF1.out, HF3.out, HB.out⟩
      case measure => simp [intOf]; omega
    · have hkn : k = 62 + q := by omega
      subst hkn
      have HF1 := Lib.hid hf1; have HF2 := Lib.hid hf2; have HB := Lib.hid hb
      clear hf1 hf2 hb hlt hk HFL HFB HBL
      have hki : ¬ (62 + (q : Int) < 62 + (q : Int)) := by omega
      go_wp2_with fail
      have hsW : w.heap.size + 1 ≤ wr.heap.size := by have := HF2.out.lt; omega
      have hct := label_any (some ⟨w.heap.size, 0, none⟩) (62 + q) (List.replicate (62 + q) (97 + r)) (w.heap.size + 1) wr HF1.out.rd hsW (by simp; omega)
      have hla := HLA.out
      rw [HPB.out] at hla
      rw [List.length_replicate, hla] at hct
      have hpd := fun w => pts_any (str (List.replicate (62 + q) b)) (by rw [str_size]; simp; omega) w
      rw [lst_str, HPT.out, HPB.out] at hpd
      clear hla
      have hq3 : q = 2 ∨ q ≤ 1 := by omega
      rcases hq3 with rfl | hq1
      · rw [if_pos (by omega)] at hct hpd
        have HPD := Lib.hid hpd; clear hpd
        refine hct.mono ?_
        clear hct
        rintro e w3 ⟨rfl, hb3⟩
        have hsz3 := hb3.size
        have hcv3 := (HF2.out.below hb3 HF2.out.lt).conv HPB.out
        have HB3 := Lib.hid (HB.out.trans (hb3.mono (by omega)))
        clear hb3
        go_wp2_with fail
        refine (HPD.out _).mono ?_
        rintro e w4 ⟨A4, c4, rfl, _, hb4⟩
        have HB4 := Lib.hid (HB3.out.trans (hb4.mono (by omega)))
        clear hb4 hcv3
        go_wp2_with fail
        refine (awake11_any _).mono ?_
        rintro e w5 ⟨rfl, hb5⟩
        have hsz5 := HB4.out.size
        have HB5 := Lib.hid (HB4.out.trans (hb5.mono (by omega)))
        clear hb5
        go_wp2
        go_ret
        first
          | exact ⟨rfl, HB5.out⟩
          | exact ⟨by simp; omega, HB5.out⟩
      · rw [if_neg (by omega)] at hct hpd
        have HPD := Lib.hid hpd; clear hpd
        refine hct.mono ?_
        clear hct
        rintro e w3 ⟨rfl, hb3⟩
        have hsz3 := hb3.size
        have hcv3 := (HF2.out.below hb3 HF2.out.lt).conv HPB.out
        have HF13 := Lib.hid (HF1.out.below hb3 HF1.out.lt)
        have HF23 := Lib.hid (HF2.out.below hb3 HF2.out.lt)
        have HB3 := Lib.hid (HB.out.trans (hb3.mono (by omega)))
        clear hb3
        go_wp2_with fail
        refine (HPD.out _).mono ?_
        rintro e w4 ⟨A4, c4, rfl, ho4, hb4⟩
        have hr4 := Rd.of_own ho4
        have hs34 := hb4.size
        have HR4 := Lib.hid hr4
        have HF14 := Lib.hid (HF13.out.below hb4 HF13.out.lt)
        have HF24 := Lib.hid (HF23.out.below hb4 HF23.out.lt)
        have HB4 := Lib.hid (HB3.out.trans (hb4.mono (by omega)))
        have hsz4 := HB4.out.size
        clear hb4 hcv3 ho4 hr4
        have hnl : (List.replicate (62 + q) (97 + r)).length = 62 + q := by simp
        try rw [hnl]
        have hk1 : ¬ (63 < 62 + (q : Int)) := by omega
        have hk2 : 62 + (q : Int) ≤ 63 := by omega
        clear hnl
        go_wp2_with fail
        refine (awake11_any _).mono ?_
        rintro e w5 ⟨rfl, hb5⟩
        have HF15 := Lib.hid (HF14.out.below hb5 HF14.out.lt)
        have HF25 := Lib.hid (HF24.out.below hb5 HF24.out.lt)
        have HR5 := Lib.hid (HR4.out.below hb5)
        have HB5 := Lib.hid (HB4.out.trans (hb5.mono (by omega)))
        clear hb5
        have hcv5 := HF25.out.conv HPB.out
        go_wp2_with fail
        have hfr := HF15.out.rd
        rw [List.length_replicate] at hfr
        have hxr := HR5.out
        simp only [List.length_replicate] at hxr
        refine (same_ok A4 (some ⟨w.heap.size, 0, none⟩) (62 + q) (62 + q) c4 (62 + q) (List.replicate (62 + q) (97 + r)) (List.replicate (62 + q) (97 + r)) w4.heap.size w5 hxr (Rd.more hfr (by omega)) (by unfold maxLen; omega) (by unfold maxLen; omega) rfl).mono ?_
        rintro e w6 ⟨rfl, q6, rfl⟩
        go_wp2
        go_ret
        exact ⟨rfl, below_drewN HB5.out _⟩
end Go.Proofs.Ytoihjbiahccaaaa
