/- The walk of the law RequestLimits. -/
import Derived.Test.YtgidnkodgdoijaaDoorRqM
import Derived.Test.YtgidnkodgdoijaaDoorPick
import Derived.Deep.OwnRows
namespace Go.Proofs.YtgidnkodgdoijaaDoor
open Go Go.RowKit
set_option linter.unusedVariables false

theorem made_at (z : Value) (n j : Nat) (hj : j < n) : (madeCells #[z] n)[j]? = some z := by simp [madeCells, hj, Nat.mod_one]
/-- Block g has n cells, the first k of them hold v. -/
def Filled (w : World) (g : Nat) (t : TypeId) (n k : Nat) (v : Value) : Prop := ∃ cs : Array Value, Bk w g t cs ∧ cs.size = n ∧ ∀ j, j < k → cs[j]? = some v
theorem Filled.at_ {w : World} {g : Nat} {t : TypeId} {n k : Nat} {v : Value} (h : Filled w g t n k v) (j : Nat) (hj : j < n) : ∃ u, w.cell? ⟨g, j, none⟩ = some u ∧ w.frozen? ⟨g, j, none⟩ = false := by
  obtain ⟨cs, h1, h2, _⟩ := h
  exact ⟨cs[j]'(by omega), by rw [h1.cell, Array.getElem?_eq_getElem (by omega)], h1.frozen j⟩
theorem Filled.put {w : World} {g : Nat} {t : TypeId} {n k : Nat} {v : Value} (h : Filled w g t n k v) (hk : k < n) : Filled (w.setCell ⟨g, k, none⟩ v) g t n (k + 1) v := by
  obtain ⟨cs, h1, h2, h3⟩ := h
  refine ⟨_, h1.set_ k v, by simp [h2], fun j hj => ?_⟩
  by_cases e : j = k
  · subst e; rw [Array.getElem?_setIfInBounds]; simp; omega
  · rw [Array.getElem?_setIfInBounds_ne (by omega)]; exact h3 j (by omega)
theorem Filled.past {w w' : World} {g : Nat} {t : TypeId} {n k : Nat} {v : Value} (h : Filled w g t n k v) (hb : Below w.heap.size w w') : Filled w' g t n k v := by
  obtain ⟨cs, h1, h2, h3⟩ := h
  exact ⟨cs, h1.below hb h1.lt, h2, h3⟩
theorem Filled.lt {w : World} {g : Nat} {t : TypeId} {n k : Nat} {v : Value} (h : Filled w g t n k v) : g < w.heap.size := by obtain ⟨cs, h1, _⟩ := h; exact h1.lt
theorem Filled.conv {w : World} {g m : Nat} (h : Filled w g 5 m m (.int .u8 97)) :
    (convert 43 9 (.slice (some ⟨g, 0, none⟩) m m)).run Tryd.prog w = .ok (.string (str (List.replicate m 97))) w := by
  obtain ⟨cs, h1, h2, h3⟩ := h
  have := run_convert_bytes_back (P := Tryd.prog) w 43 9 5 ⟨g, 0, none⟩ m (List.replicate m 97) Tryd.underlying43 Tryd.underlying5 Tryd.underlying9 (fun j hj => by
    rw [addp, Nat.zero_add, h1.cell]
    simp at hj
    rw [h3 j hj]; simp)
  simpa [str] using this
theorem qs_rep : ∀ (m : Nat), Rq.qs (List.replicate m 97) = List.replicate m 97
  | 0 => rfl
  | m + 1 => by
    rw [List.replicate_succ]
    show Rq.qb 97 ++ Rq.qs (List.replicate m 97) = _
    rw [qs_rep m]; rfl
theorem quote_rep (m : Nat) (h : 0 < m) : Rq.quote (List.replicate m 97) = List.replicate m 97 := by
  unfold Rq.quote
  rw [if_neg (by intro e; have := congrArg List.length e; simp at this; omega), qs_rep]
theorem ftext_rep (m : Nat) (h : 0 < m) : Rq.ftext 7 0 [List.replicate m 97] = [81, 85, 69, 82, 89, 32] ++ List.replicate m 97 := by
  unfold Rq.ftext Rq.fwords
  show Rq.jn (Rq.wd 7 :: ([] ++ [Rq.quote (List.replicate m 97)])) = _
  rw [quote_rep m h]; rfl
theorem lim_big (m : Nat) (h : 4096 < m + 6) : fmtVal 7 0 [List.replicate m 97] = .tuple #[.string ⟨#[]⟩, .int .i64 7] ∧ Rq.parse ([81, 85, 69, 82, 89, 32] ++ List.replicate m 97) = ⟨0, 0, [], 7⟩ := by
  have hl : 4096 < ([81, 85, 69, 82, 89, 32] ++ List.replicate m (97 : UInt8)).length := by simp; omega
  constructor
  · unfold fmtVal
    rw [if_neg (by simp), ftext_rep m (by omega), if_pos hl]
  · unfold Rq.parse; rw [if_pos hl]
theorem lim_small (m : Nat) (h0 : 0 < m) (h : m + 6 ≤ 4096) : fmtVal 7 0 [List.replicate m 97] = .tuple #[.string (str ([81, 85, 69, 82, 89, 32] ++ List.replicate m 97)), .int .i64 0] ∧ Rq.parse ([81, 85, 69, 82, 89, 32] ++ List.replicate m 97) = ⟨7, 0, [List.replicate m 97], 0⟩ := by
  have hl : ([81, 85, 69, 82, 89, 32] ++ List.replicate m (97 : UInt8)).length ≤ 4096 := by simp; omega
  constructor
  · unfold fmtVal
    rw [if_neg (by simp), ftext_rep m h0, if_neg (by omega)]
  · have := round 7 0 [List.replicate m 97] (by omega) (by omega) (by decide) (by simp) (by rw [ftext_rep m h0]; exact hl)
    rwa [ftext_rep m h0] at this
set_option maxRecDepth 100000 in
set_option maxHeartbeats 8000000 in
theorem walk_RequestLimits (a0 : Int) (w : World) (w0 : (Lit.int .i64 a0).wf = true) (ht : Tb w) :
    Calls Tryd.prog 6 #[.int .i64 a0] w fun e w' => e = .returned (.bool true) ∧ Below w.heap.size w w' := by
  clear w0
  have p0 := Kp.pick_lo a0 3 (by omega)
  have p1 := Kp.pick_hi a0 3 (by omega)
  obtain ⟨q, hq⟩ : ∃ q : Nat, (q : Int) = Kp.pick a0 3 := ⟨(Kp.pick a0 3).toNat, by omega⟩
  have hq2 : q ≤ 2 := by omega
  have hmb := run_make_row' (P := Tryd.prog) 43 5 (.int .u8 0) 1 Tryd.underlying43 info_u8 rfl .i64 .i64 (4089 + q) (by omega) (by omega)
  have c2 : ((4089 + q : Nat) : Int) = 4089 + (q : Int) := by omega
  rw [c2] at hmb
  have HQ := Lib.hid hq; have HT := Lib.hid ht
  clear hq p0 p1 c2 ht
  go_enter Tryd.func6, Tryd.ntmps6
  go_wp2_with fail
  refine (pick_any a0 3 (by omega) (by omega) _).mono ?_
  rintro e w9 ⟨rfl, hpw⟩
  subst hpw
  rw [← HQ.out]
  have e2 : (4091 : Int) + (q : Int) - 1 - 1 = 4089 + (q : Int) := by omega
  go_wp2_with fail
  clear e2 hmb
  have hfb : Filled (w.alloc (.cells (madeCells #[.int .u8 0] (4089 + q)) 5)) w.heap.size 5 (4089 + q) 0 (.int .u8 97) := ⟨_, Bk.new w _ _, by simp [madeCells], fun j hj => by omega⟩
  have hbl : Below w.heap.size w (w.alloc (.cells (madeCells #[.int .u8 0] (4089 + q)) 5)) := (Below.refl _ w).alloc (Nat.le_refl _) _
  generalize w.alloc (.cells (madeCells #[.int .u8 0] (4089 + q)) 5) = w1 at *
  have HFB := Lib.hid hfb; have HBL := Lib.hid hbl
  clear hfb hbl
  go_loopw [19] (fun vi wr => ∃ k : Nat, k ≤ 4089 + q ∧ vi = .int .i64 k ∧ Filled wr w.heap.size 5 (4089 + q) k (.int .u8 97) ∧ Below w.heap.size w wr) (fun vi _ => 4089 + q - (intOf vi).toNat)
  case atStart => exact ⟨0, by omega, rfl, HFB.out, HBL.out⟩
  case round =>
    obtain ⟨k, hk, rfl, hf, hb⟩ := hrel
    by_cases hlt : k < 4089 + q
    · obtain ⟨u, hu, hfz⟩ := hf.at_ k hlt
      have HF := Lib.hid (hf.put hlt)
      have HB := Lib.hid (hb.setCell (p := ⟨w.heap.size, k, none⟩) (Nat.le_refl _) (.int .u8 97))
      clear hf hb
      have hki : (k : Int) < 4089 + (q : Int) := by omega
      go_wp2
      go_roundw
      case rel => exact ⟨k + 1, by omega, by go_num, HF.out, HB.out⟩
      case measure => simp [intOf]; omega
    · have hkn : k = 4089 + q := by omega
      subst hkn
      have HF := Lib.hid hf; have HB := Lib.hid hb
      have hlt2 := hf.lt
      have hcv := hf.conv
      clear hf hb hlt hk HFB HBL
      have hki : ¬ (4089 + (q : Int) < 4089 + (q : Int)) := by omega
      go_wp2_with fail
      clear hcv
      have hrl : (List.replicate (4089 + q) (97 : UInt8)).length = 4089 + q := by simp
      have hfl : (Rq.ftext 7 0 [List.replicate (4089 + q) 97]).length = 4095 + q := by rw [ftext_rep _ (by omega)]; simp; omega
      have hB2 : Below w.heap.size w (wr.alloc (.cells #[.string (str (List.replicate (4089 + q) 97))] 9)) := HB.out.alloc (by omega) _
      have hfm : Calls Tryd.prog 12 #[.agg #[.int .i64 7, .int .i64 0, .slice (some ⟨wr.heap.size, 0, none⟩) 1 1]] (wr.alloc (.cells #[.string (str (List.replicate (4089 + q) 97))] 9)) fun e w' => e = .returned (fmtVal 7 0 [List.replicate (4089 + q) 97]) ∧ Below (wr.alloc (.cells #[.string (str (List.replicate (4089 + q) 97))] 9)).heap.size (wr.alloc (.cells #[.string (str (List.replicate (4089 + q) 97))] 9)) w' :=
        format_any 7 0 (some ⟨wr.heap.size, 0, none⟩) 1 1 [List.replicate (4089 + q) 97] _ (Rd.more (rd_one_str wr (str (List.replicate (4089 + q) 97))) (by simp)) (by omega) (by omega) (by decide) (by omega)
          (fun x hx => by rw [List.mem_singleton.1 hx, hrl]; omega) (by show (Rq.ftext 7 0 [List.replicate (4089 + q) 97]).length ≤ _; rw [hfl]; omega) (Tb.past HT.out hB2)
      have HFM := Lib.hid hfm
      have HF2 := Lib.hid (show Filled (wr.alloc (.cells #[.string (str (List.replicate (4089 + q) 97))] 9)) w.heap.size 5 (4089 + q) (4089 + q) (.int .u8 97) from by obtain ⟨cs, h1, h2, h3⟩ := HF.out; exact ⟨cs, h1.alloc _, h2, h3⟩)
      have HB2 := Lib.hid hB2
      have hsz2 := hB2.size
      have hcat : (⟨#[81, 85, 69, 82, 89, 32]⟩ : ByteArray) ++ str (List.replicate (4089 + q) 97) = str ([81, 85, 69, 82, 89, 32] ++ List.replicate (4089 + q) 97) := str_append [81, 85, 69, 82, 89, 32] _
      have hs6 : (⟨#[81, 85, 69, 82, 89, 32]⟩ : ByteArray).size = 6 := rfl
      have hsr : (str (List.replicate (4089 + q) (97 : UInt8))).size = 4089 + q := by rw [str_size, hrl]
      have HP := Lib.hid (parse_any (str ([81, 85, 69, 82, 89, 32] ++ List.replicate (4089 + q) 97)))
      clear hfm hrl hfl hki HB HF hB2
      have hW2 : (wr.alloc (.cells #[.string (str (List.replicate (4089 + q) 97))] 9)).heap.size = wr.heap.size + 1 := by simp
      by_cases hbig : 4096 < 4089 + q + 6
      · obtain ⟨hv, hpv⟩ := lim_big (4089 + q) hbig
        rw [hv] at HFM
        rw [lst_str, hpv] at HP
        refine HFM.out.mono ?_
        rintro e w3 ⟨rfl, hb3⟩
        have HB3 := Lib.hid (HB2.out.trans (hb3.mono hsz2)); have hsz3 := HB3.out.size
        have hcv := (HF2.out.past hb3).conv
        clear hb3 hv hpv HFM HF2
        go_wp2_with fail
        clear hcv
        refine (HP.out _).mono ?_
        rintro e w4 ⟨A4, n4, c4, rfl, hn4, ho4, hb4⟩
        have HB4 := Lib.hid (HB3.out.trans (hb4.mono hsz3)); have hsz4 := HB4.out.size
        have HB4' := Lib.hid (HB4.out.alloc hsz4 (.cells (reqAgg 0 0 A4 n4 c4) 35))
        clear hn4 ho4 hb4
        unfold reqAgg at HB4' ⊢
        have hbi : (4096 : Int) < 4089 + (q : Int) + 6 := by omega
        go_wp2_with fail
        refine (awake27_any _).mono ?_
        rintro e w5 ⟨rfl, hb5⟩
        have HB5 := Lib.hid (HB4'.out.trans (hb5.mono (by simp; omega)))
        clear hb5
        go_wp2
        go_ret
        exact ⟨rfl, HB5.out⟩
      · obtain ⟨hv, hpv⟩ := lim_small (4089 + q) (by omega) (by omega)
        rw [hv] at HFM
        rw [lst_str, hpv] at HP
        have hsq : (str (81 :: 85 :: 69 :: 82 :: 89 :: 32 :: List.replicate (4089 + q) (97 : UInt8))).size = 4095 + q := by rw [str_size]; simp; omega
        refine HFM.out.mono ?_
        rintro e w3 ⟨rfl, hb3⟩
        have HB3 := Lib.hid (HB2.out.trans (hb3.mono hsz2)); have hsz3 := HB3.out.size
        have hcv := (HF2.out.past hb3).conv
        clear hb3 hv hpv HFM HF2
        go_wp2_with fail
        clear hcv
        refine (HP.out _).mono ?_
        rintro e w4 ⟨A4, n4, c4, rfl, hn4, ho4, hb4⟩
        have hn1 : n4 = 1 := hn4.symm
        subst hn1
        have HB4 := Lib.hid (HB3.out.trans (hb4.mono hsz3)); have hsz4 := HB4.out.size
        have HB4' := Lib.hid (HB4.out.alloc hsz4 (.cells (reqAgg 7 0 A4 1 c4) 35))
        have HK4 := Lib.hid (Bk.new w4 35 (reqAgg 7 0 A4 1 c4))
        clear hn4 ho4 hb4
        unfold reqAgg at HB4' HK4 ⊢
        have hbi : ¬ ((4096 : Int) < 4089 + (q : Int) + 6) := by omega
        have heq : (4095 + (q : Int) == 4089 + (q : Int) + 6) = true := by rw [beq_iff_eq]; omega
        go_wp2_with fail
        refine (awake27_any _).mono ?_
        rintro e w5 ⟨rfl, hb5⟩
        have HB5 := Lib.hid (HB4'.out.trans (hb5.mono (by simp; omega)))
        have hk5 := HK4.out.below hb5 (by simp)
        have k2 : w5.cell? ⟨w4.heap.size, 2, none⟩ = some (.slice A4 1 c4) := hk5.cell 2
        clear hb5 hk5
        go_wp2
        go_ret
        exact ⟨rfl, HB5.out⟩
end Go.Proofs.YtgidnkodgdoijaaDoor
