/- The walk of the law SplitLabels. -/
import Derived.Test.YtddlafcnfdohnaaDoorDSame
import Derived.Test.YtddlafcnfdohnaaDoorDRJoin
import Derived.Test.YtddlafcnfdohnaaDoorDRLab
import Derived.Test.YtddlafcnfdohnaaDoorDRStr
import Derived.Test.YtddlafcnfdohnaaDoorDLb
namespace Go.Proofs.YtddlafcnfdohnaaDoor
open Go Go.RowKit
set_option linter.unusedVariables false

theorem Sp.total_le (l : List (List Int)) : Sp.total l ≤ (Sp.join l).length + 1 := by
  cases l with
  | nil => simp [Sp.total]
  | cons a r =>
    have : ∀ r : List (List Int), (r.flatMap (fun y => (46 : Int) :: y)).length = Sp.total r := by
      intro r; induction r with
      | nil => rfl
      | cons b r ih => simp [Sp.total] at ih ⊢; omega
    simp [Sp.join, this, Sp.total]; omega
theorem Sp.total_labels (xs : List Int) : Sp.total (Sp.labels xs) ≤ xs.length + 1 := by
  have := Sp.total_le (Sp.labels xs); rwa [Sp.join_labels] at this
theorem Sp.len_total (l : List (List Int)) : l.length ≤ Sp.total l := by
  induction l with
  | nil => simp [Sp.total]
  | cons a r ih => unfold Sp.total at ih ⊢; simp only [List.map_cons, List.sum_cons, List.length_cons]; omega
theorem Sp.mem_total (l : List (List Int)) (y : List Int) (h : y ∈ l) : y.length ≤ Sp.total l := by
  induction l with
  | nil => cases h
  | cons a r ih =>
    unfold Sp.total at ih ⊢
    simp only [List.map_cons, List.sum_cons]
    rcases List.mem_cons.1 h with rfl | h
    · omega
    · have := ih h; omega
theorem sStr_cut (s : ByteArray) : sStr s = (cut46 (lst s)).map str := by
  refine data_inj _ _ ?_
  rw [show sStr s = Lib.splitB ⟨#[46]⟩ 0 (Lib.countB s ⟨#[46]⟩) s from rfl, splitB_cut, List.map_map]
  have : (fun x : ByteArray => x.data.toList) ∘ str = id := by funext x; rfl
  rw [this, List.map_id]; rfl
/-- Labels and the document's Labels agree. -/
theorem agree_labels (A : Option Addr) (c : Nat) (xs : List Int) (hl : xs.length ≤ 1099511627776) :
    ∃ L : List (List Int), L.length ≤ 1099511627777 ∧ (∀ w, Rd w w.heap.size 1 A xs.length (ints xs) → Calls Tryd.prog 8 #[.slice A xs.length c] w (RetR L w)) ∧
      (∀ w, Rd w w.heap.size 1 A xs.length (ints xs) → Calls Tryd.prog 9 #[.slice A xs.length c] w (RetR L w)) ∧ (∀ y ∈ L, y.length ≤ maxLen) := by
  have ht := Sp.total_labels xs
  refine ⟨Sp.labels xs, by have := Sp.len_total (Sp.labels xs); omega, fun w hr => labels_any A c xs w hr hl, fun w hr => rlabels_any A c xs w hr hl, fun y hy => ?_⟩
  have := Sp.mem_total _ y hy
  unfold maxLen; omega
set_option maxRecDepth 100000 in
set_option maxHeartbeats 8000000 in
theorem walk_SplitLabels (a0 : Option Addr) (c0 : Nat) (x0 : List Int) (a1 : Option Addr) (c1 : Nat) (x1 : List (List Int)) (a2 : ByteArray) (a3 : Option Addr) (c3 : Nat) (x3 : List Int) (w : World)
    (rd0 : Rd w w.heap.size 1 a0 x0.length (intsK .i64 x0)) (m0 : x0.length ≤ maxLen) (f0 : ∀ n ∈ x0, (Lit.int .i64 n).wf = true) (u0 : x0.length ≤ 1048576)
    (rd1 : RdR w w.heap.size a1 x1) (t1 : Sp.total x1 ≤ 1048576) (w2 : a2.size ≤ maxLen) (u2 : a2.size ≤ 1048576)
    (rd3 : Rd w w.heap.size 1 a3 x3.length (intsK .i64 x3)) (m3 : x3.length ≤ maxLen) (f3 : ∀ n ∈ x3, (Lit.int .i64 n).wf = true) (u3 : x3.length ≤ 1048576) (hsh : Sh w) :
    Calls Tryd.prog 3 #[.slice a0 x0.length c0, .slice a1 x1.length c1, .string a2, .slice a3 x3.length c3] w fun e w' => e = .returned (.bool true) ∧ Below w.heap.size w w' := by
  have HR0 := Lib.hid (show Rd w w.heap.size 1 a0 x0.length (ints x0) from rd0); have HR1 := Lib.hid rd1; have HR3 := Lib.hid (show Rd w w.heap.size 1 a3 x3.length (ints x3) from rd3)
  have HSH := Lib.hid hsh; have HM3 := Lib.hid m3
  have hpl := pts_length x3
  have hxl := Sp.len_total x1
  have hjl := Sp.join_len x1
  have hx1 : x1.length ≤ maxLen := by unfold maxLen; omega
  have HX1 := Lib.hid hx1; have HT1 := Lib.hid t1
  obtain ⟨L, hL1, hL2, hL3, hL4⟩ := agree_labels a0 c0 x0 (by omega)
  have HL2 := Lib.hid hL2; have HL3 := Lib.hid hL3; have HL4 := Lib.hid hL4
  have hLm : L.length ≤ maxLen := by unfold maxLen; omega
  have HLM := Lib.hid hLm
  have hcut := sStr_cut a2
  have HC := Lib.hid hcut
  have hcl : (sStr a2).length ≤ maxLen := by
    have h1 := sStr_len a2
    have h2 := Lib.countB_le ⟨#[46]⟩ (by decide) a2.size a2 (Nat.le_refl _)
    unfold maxLen; omega
  have HCL := Lib.hid hcl
  have hjm : (Sp.join x1).length ≤ maxLen := by unfold maxLen; omega
  have HJM := Lib.hid hjm
  clear rd0 m0 f0 rd1 w2 rd3 m3 f3 hsh hL2 hL3 hL4 hcut hxl hjl hx1 hLm hcl hjm hL1 t1
  go_enter Tryd.func3, Tryd.ntmps3
  go_wp2_with fail
  refine (points_any a3 c3 x3 w HR3.out HM3.out).mono ?_
  rintro e w1 ⟨A1, k1, rfl, ho1, hb1⟩
  have hs1 := hb1.size
  have HB1 := Lib.hid hb1; have HP1 := Lib.hid (Rd.of_own ho1)
  clear hb1 ho1 HR3 HM3
  generalize pts x3 = P at *
  obtain ⟨M, hM1, hM2, hM3, hM4⟩ := agree_labels A1 k1 P (by omega)
  have hMm : M.length ≤ maxLen := by unfold maxLen; omega
  have HM2 := Lib.hid hM2; have HM3 := Lib.hid hM3; have HM4 := Lib.hid hM4; have HMM := Lib.hid hMm
  clear hM2 hM3 hM4 hMm hM1
  go_wp2_with fail
  refine (awake12_any _).mono ?_
  rintro e w2 ⟨rfl, hb2⟩
  have hs2 := hb2.size
  have HB2 := Lib.hid (HB1.out.trans (hb2.mono (by omega))); have HP2 := Lib.hid (HP1.out.below hb2)
  clear hb2 HB1 HP1
  go_wp2_with fail
  refine (HL2.out _ ((HR0.out.below HB2.out).more (by omega))).mono ?_
  rintro e w3 ⟨A3, k3, vs3, rfl, ho3, hr3, hb3⟩
  have hs3 := hb3.size
  have HB3 := Lib.hid (HB2.out.trans (hb3.mono (by omega))); have HP3 := Lib.hid (HP2.out.below (hb3.mono (by omega))); have HQ3 := Lib.hid (rdr_of ho3 hr3)
  clear hb3 ho3 hr3 HB2 HP2
  go_wp2_with fail
  refine (HL3.out _ ((HR0.out.below HB3.out).more (by omega))).mono ?_
  rintro e w4 ⟨A4, k4, vs4, rfl, ho4, hr4, hb4⟩
  have hs4 := hb4.size
  have HB4 := Lib.hid (HB3.out.trans (hb4.mono (by omega))); have HP4 := Lib.hid (HP3.out.below (hb4.mono (by omega))); have HQ4 := Lib.hid ((HQ3.out.below hb4).more (B' := w4.heap.size) (by omega)); have HT4 := Lib.hid (rdr_of ho4 hr4)
  clear hb4 ho4 hr4 HB3 HP3 HQ3
  go_wp2_with fail
  refine (samel_ok A3 A4 k3 k4 L _ w4 HQ4.out HT4.out HLM.out HL4.out).mono ?_
  rintro e w5 ⟨rfl, q5, rfl⟩
  have hs5 : (w4.drewN q5).heap.size = w4.heap.size := rfl
  have HB5 := Lib.hid (below_drewN HB4.out q5); have HP5 := Lib.hid (HP4.out.drewN q5)
  generalize w4.drewN q5 = w5 at *
  clear HB4 HP4 HQ4 HT4
  go_wp2_with fail
  refine (HM2.out _ (HP5.out.more (by omega))).mono ?_
  rintro e w6 ⟨A6, k6, vs6, rfl, ho6, hr6, hb6⟩
  have hs6 := hb6.size
  have HB6 := Lib.hid (HB5.out.trans (hb6.mono (by omega))); have HP6 := Lib.hid (HP5.out.below (hb6.mono (by omega))); have HQ6 := Lib.hid (rdr_of ho6 hr6)
  clear hb6 ho6 hr6 HB5 HP5
  go_wp2_with fail
  refine (HM3.out _ (HP6.out.more (by omega))).mono ?_
  rintro e w7 ⟨A7, k7, vs7, rfl, ho7, hr7, hb7⟩
  have hs7 := hb7.size
  have HB7 := Lib.hid (HB6.out.trans (hb7.mono (by omega))); have HQ7 := Lib.hid ((HQ6.out.below hb7).more (B' := w7.heap.size) (by omega)); have HT7 := Lib.hid (rdr_of ho7 hr7)
  clear hb7 ho7 hr7 HB6 HP6 HQ6
  go_wp2_with fail
  refine (samel_ok A6 A7 k6 k7 M _ w7 HQ7.out HT7.out HMM.out HM4.out).mono ?_
  rintro e w8 ⟨rfl, q8, rfl⟩
  have hs8 : (w7.drewN q8).heap.size = w7.heap.size := rfl
  have HB8 := Lib.hid (below_drewN HB7.out q8)
  generalize w7.drewN q8 = w8 at *
  clear HB7 HQ7 HT7
  go_wp2_with fail
  refine (join_any a1 c1 x1 w.heap.size w8 (HR1.out.below HB8.out) (by omega) (by have := HT1.out; omega) HX1.out).mono ?_
  rintro e w9 ⟨A9, k9, rfl, ho9, hb9⟩
  have hs9 := hb9.size
  have HB9 := Lib.hid (HB8.out.trans (hb9.mono (by omega))); have HQ9 := Lib.hid (Rd.of_own ho9)
  clear hb9 ho9 HB8
  go_wp2_with fail
  refine (rjoin_any a1 c1 x1 w.heap.size w9 (HR1.out.below HB9.out) (by omega) (by have := HT1.out; omega) HX1.out).mono ?_
  rintro e w10 ⟨A10, k10, rfl, ho10, hb10⟩
  have hs10 := hb10.size
  have HB10 := Lib.hid (HB9.out.trans (hb10.mono (by omega))); have HQ10 := Lib.hid ((HQ9.out.below hb10).more (B' := w10.heap.size) (by omega)); have HT10 := Lib.hid (Rd.of_own ho10)
  clear hb10 ho10 HB9 HQ9
  go_wp2_with fail
  refine (same_ok A9 A10 (Sp.join x1).length (Sp.join x1).length k9 k10 _ _ _ w10 HQ10.out HT10.out HJM.out HJM.out rfl).mono ?_
  rintro e w11 ⟨rfl, q11, rfl⟩
  have hs11 : (w10.drewN q11).heap.size = w10.heap.size := rfl
  have HB11 := Lib.hid (below_drewN HB10.out q11)
  generalize w10.drewN q11 = w11 at *
  clear HB10 HQ10 HT10
  go_wp2_with fail
  refine (strings_any a2 w11 (HSH.out.past HB11.out) (by omega)).mono ?_
  rintro e w12 ⟨A12, k12, rfl, ho12, hb12⟩
  have hs12 := hb12.size
  have HB12 := Lib.hid (HB11.out.trans (hb12.mono (by omega))); have HQ12 := Lib.hid (Rd.of_own ho12)
  clear hb12 ho12 HB11
  go_wp2_with fail
  refine (rstrings_any a2 (by omega) w12).mono ?_
  rw [← HC.out]
  rintro e w13 ⟨A13, k13, rfl, ho13, hb13⟩
  have hs13 := hb13.size
  have HB13 := Lib.hid (HB12.out.trans (hb13.mono (by omega))); have HQ13 := Lib.hid ((HQ12.out.below hb13).more (B' := w13.heap.size) (by omega)); have HT13 := Lib.hid (Rd.of_own ho13)
  clear hb13 ho13 HB12 HQ12
  go_wp2_with fail
  refine (sames_ok A12 A13 (sStr a2).length (sStr a2).length k12 k13 _ _ _ w13 HQ13.out HT13.out HCL.out HCL.out rfl).mono ?_
  rintro e w14 ⟨rfl, q14, rfl⟩
  go_wp2
  go_ret
  exact ⟨rfl, below_drewN HB13.out q14⟩
end Go.Proofs.YtddlafcnfdohnaaDoor
