/- The walk of the law RequestRound. -/
import Derived.Test.YtgidnkodgdoijaaDoorRqM
import Derived.Test.YtgidnkodgdoijaaDoorPick
namespace Go.Proofs.YtgidnkodgdoijaaDoor
open Go Go.RowKit
set_option linter.unusedVariables false

theorem sum_le (B : Nat) : ∀ (l : List (List UInt8)), (∀ x ∈ l, x.length ≤ B) → ((l.map Rq.quote).map (fun w => w.length + 1)).sum ≤ l.length * (3 * B + 3)
  | [], _ => by simp
  | x :: r, h => by
    have h1 := sum_le B r (fun y hy => h y (List.mem_cons_of_mem _ hy))
    have h2 := Rq.quote_len x
    have h3 := h x (List.mem_cons_self ..)
    simp only [List.map_cons, List.sum_cons, List.length_cons]
    rw [Nat.succ_mul]; omega
theorem ftext_len (op ttl : Int) (ns : List (List UInt8)) (h0 : 1 ≤ op) (h7 : op ≤ 7) (ht : Rq.ttl op ttl = true) (hN : ns.length ≤ 1048576) (hm : ∀ x ∈ ns, x.length ≤ 1048576) : (Rq.ftext op ttl ns).length ≤ 140737488355328 := by
  have h1 := jn_len (Rq.fwords op ttl ns) (by unfold Rq.fwords; simp)
  have h2 := sum_le 1048576 ns hm
  have hw : ∀ j : Fin 8, (Rq.wd j.val).length ≤ 8 := by decide
  have hw1 := hw ⟨op.toNat, by omega⟩
  have hi : ∀ l, l = (if Rq.timed op then [Lib.itoa ttl] else []) → (l.map (fun w => w.length + 1)).sum ≤ 12 := by
    intro l hl
    subst hl
    split
    · rename_i htm
      have hb : 1 ≤ ttl ∧ ttl ≤ 1073741824 := by unfold Rq.ttl at ht; rw [htm] at ht; simpa using ht
      have : (Lib.itoa ttl).length ≤ 10 := by
        unfold Lib.itoa
        rw [if_neg (by omega)]
        exact dd_len 10 _ (by omega) (by omega)
      simp; omega
    · simp
  have h3 := hi _ rfl
  unfold Rq.ftext
  unfold Rq.fwords at h1 ⊢
  rw [List.map_cons, List.sum_cons, List.map_append, List.sum_append] at h1
  simp only at hw1
  have h4 : ns.length * (3 * 1048576 + 3) ≤ 1048576 * (3 * 1048576 + 3) := Nat.mul_le_mul_right _ hN
  omega
theorem map_lst (l : List ByteArray) : (l.map lst).map str = l := by
  induction l with
  | nil => rfl
  | cons a r ih => simp only [List.map_cons]; rw [ih, str_lst]
set_option maxRecDepth 100000 in
set_option maxHeartbeats 8000000 in
theorem walk_RequestRound (a0 a1 : Int) (a2 : Option Addr) (c2 : Nat) (x2 : List ByteArray) (w : World) (w0 : (Lit.int .i64 a0).wf = true) (w1 : (Lit.int .i64 a1).wf = true)
    (rd2 : Rd w w.heap.size 1 a2 x2.length (strs x2)) (m2 : x2.length ≤ maxLen) (f2 : ∀ s ∈ x2, s.size ≤ maxLen) (u2 : x2.length ≤ 1048576) (v2 : ∀ s ∈ x2, s.size ≤ 1048576) (ht : Tb w) :
    Calls Tryd.prog 5 #[.int .i64 a0, .int .i64 a1, .slice a2 x2.length c2] w fun e w' => e = .returned (.bool true) ∧ Below w.heap.size w w' := by
  clear w0 w1 f2
  have p0 := Kp.pick_lo a0 7 (by omega)
  have p1 := Kp.pick_hi a0 7 (by omega)
  have p2 := Kp.pick_lo a1 1073741824 (by omega)
  have p3 := Kp.pick_hi a1 1073741824 (by omega)
  obtain ⟨q, hq⟩ : ∃ q : Nat, (q : Int) = Kp.pick a0 7 := ⟨(Kp.pick a0 7).toNat, by omega⟩
  obtain ⟨r, hr⟩ : ∃ r : Nat, (r : Int) = Kp.pick a1 1073741824 := ⟨(Kp.pick a1 1073741824).toNat, by omega⟩
  have hq2 : q ≤ 6 := by omega
  have hr2 : r < 1073741824 := by omega
  obtain ⟨J, hJ⟩ : ∃ J : Nat, 1 + (q : Int) = (J : Int) := ⟨q + 1, by omega⟩
  have hJ1 : 1 ≤ J := by omega
  have hJ7 : J ≤ 7 := by omega
  have HQ := Lib.hid hq; have HR := Lib.hid hr; have HT := Lib.hid ht; have HJ := Lib.hid hJ; have HV := Lib.hid v2; have HRD := Lib.hid rd2
  clear hq hr p0 p1 p2 p3 ht hJ v2 rd2
  have hc : (((J : Int) == 1) = true) ∨ (((J : Int) == 1) = false ∧ ((J : Int) == 3) = true) ∨ (((J : Int) == 1) = false ∧ ((J : Int) == 3) = false) := by
    cases ((J : Int) == 1) <;> cases ((J : Int) == 3) <;> simp
  rcases hc with e1 | ⟨e1, e3⟩ | ⟨e1, e3⟩
  all_goals
    go_enter Tryd.func5, Tryd.ntmps5
    go_wp2_with fail
    refine (pick_any a0 7 (by omega) (by omega) _).mono ?_
    rintro e w9 ⟨rfl, hpw⟩
    subst hpw
    rw [← HQ.out]
    go_upto_region 2 with fail
    rw [HJ.out]
    go_upto_if 24 with fail
    go_cut [7] (fun v wx => ∃ T : Int, v = .pointer (some ⟨w.heap.size, 0, none⟩) ∧ Rq.ttl (J : Int) T = true ∧ Bk wx w.heap.size 35 #[.int .i64 (J : Int), .int .i64 T, .slice a2 x2.length c2] ∧ Below w.heap.size w wx)
    case first =>
      first
        | (have hj : J = 1 := by have := e1; simp at this; omega
           subst hj)
        | (have hj : J = 3 := by have := e3; simp at this; omega
           subst hj)
        | (have hj : Rq.ttl (J : Int) 0 = true := by
             have h1 : ¬ (J : Int) = 1 := by simpa using e1
             have h3 : ¬ (J : Int) = 3 := by simpa using e3
             unfold Rq.ttl Rq.timed
             rw [decide_eq_false (by omega)]
             decide)
      try (
        go_wp2_with fail
        refine (pick_any a1 1073741824 (by omega) (by omega) _).mono ?_
        rintro e w9 ⟨rfl, hpw⟩
        subst hpw
        rw [← HR.out])
      go_wp2_with fail
      go_meet
      case rel =>
        first
          | exact ⟨0, rfl, hj, Bk.new w _ _, (Below.refl _ _).alloc (Nat.le_refl _) _⟩
          | exact ⟨1 + (r : Int), rfl, by unfold Rq.ttl Rq.timed; simp; omega, Bk.new w _ _, (Below.refl _ _).alloc (Nat.le_refl _) _⟩
    case rest =>
      obtain ⟨T, rfl, hT, hk, hb⟩ := hcut
      clear e1
      try clear e3
      have hbs := hb.size
      have hnl : (x2.map lst).length = x2.length := List.length_map ..
      have hmx : ∀ x ∈ x2.map lst, x.length ≤ 1048576 := by
        intro x hx
        obtain ⟨s, hs, rfl⟩ := List.mem_map.1 hx
        rw [lst_length]; exact HV.out s hs
      have hfl := ftext_len (J : Int) T (x2.map lst) (by omega) (by omega) hT (by omega) hmx
      have hrc : Rd wc w.heap.size 1 a2 x2.length (strs x2) := HRD.out.below hb
      have HFM := Lib.hid (format_any J T a2 x2.length c2 (x2.map lst) wc (by rw [map_lst]; exact hrc.more hbs) hJ1 hJ7 hT u2 hmx hfl (HT.out.past hb))
      have HK := Lib.hid hk; have HB := Lib.hid hb; have HRC := Lib.hid hrc
      have k0 : wc.cell? ⟨w.heap.size, 0, none⟩ = some (.int .i64 (J : Int)) := hk.cell 0
      have k1 : wc.cell? ⟨w.heap.size, 1, none⟩ = some (.int .i64 T) := hk.cell 1
      have k2 : wc.cell? ⟨w.heap.size, 2, none⟩ = some (.slice a2 x2.length c2) := hk.cell 2
      have hlt := hk.lt
      clear hk hb hrc hmx hfl
      by_cases hbad : (J : Int) = 7 ∧ (x2.map lst).length ≠ 1
      · have hv : fmtVal (J : Int) T (x2.map lst) = .tuple #[.string ⟨#[]⟩, .int .i64 4] := by unfold fmtVal; rw [if_pos hbad]
        rw [hv] at HFM
        have hj7 : ((J : Int) == 7) = true := by simpa using hbad.1
        clear hv hbad hT
        go_wp2_with fail
        refine HFM.out.mono ?_
        rintro e w3 ⟨rfl, hb3⟩
        have HB3 := Lib.hid (HB.out.trans (hb3.mono hbs)); have HK3 := Lib.hid (HK.out.below hb3 hlt)
        have hsz3 := hb3.size
        clear hb3 k0 k1 k2 HFM
        go_wp2_with fail
        refine (awake27_any _).mono ?_
        rintro e w5 ⟨rfl, hb5⟩
        have HB5 := Lib.hid (HB3.out.trans (hb5.mono (by omega)))
        have hk5 := HK3.out.below hb5 (by omega)
        have k0 : w5.cell? ⟨w.heap.size, 0, none⟩ = some (.int .i64 (J : Int)) := hk5.cell 0
        clear hb5 hk5
        go_wp2
        go_ret
        exact ⟨rfl, HB5.out⟩
      · by_cases hbig : 4096 < (Rq.ftext (J : Int) T (x2.map lst)).length
        · have hv : fmtVal (J : Int) T (x2.map lst) = .tuple #[.string ⟨#[]⟩, .int .i64 7] := by unfold fmtVal; rw [if_neg hbad, if_pos hbig]
          rw [hv] at HFM
          clear hv hbad hT hbig
          go_wp2_with fail
          refine HFM.out.mono ?_
          rintro e w3 ⟨rfl, hb3⟩
          have HB3 := Lib.hid (HB.out.trans (hb3.mono hbs)); have HK3 := Lib.hid (HK.out.below hb3 hlt)
          have hsz3 := hb3.size
          clear hb3 k0 k1 k2 HFM
          go_wp2_with fail
          refine (awake27_any _).mono ?_
          rintro e w5 ⟨rfl, hb5⟩
          have HB5 := Lib.hid (HB3.out.trans (hb5.mono (by omega)))
          clear hb5
          go_wp2
          go_ret
          exact ⟨rfl, HB5.out⟩
        · have hv : fmtVal (J : Int) T (x2.map lst) = .tuple #[.string (str (Rq.ftext (J : Int) T (x2.map lst))), .int .i64 0] := by unfold fmtVal; rw [if_neg hbad, if_neg hbig]
          have hp := parse_any (str (Rq.ftext (J : Int) T (x2.map lst)))
          rw [lst_str, round (J : Int) T (x2.map lst) (by omega) (by omega) hT hbad (by omega)] at hp
          rw [hv] at HFM
          generalize str (Rq.ftext (J : Int) T (x2.map lst)) = tx at *
          have HP := Lib.hid hp
          clear hv hbad hbig hp
          go_wp2_with fail
          refine HFM.out.mono ?_
          rintro e w3 ⟨rfl, hb3⟩
          have HB3 := Lib.hid (HB.out.trans (hb3.mono hbs)); have HK3 := Lib.hid (HK.out.below hb3 hlt)
          have HR3 := Lib.hid (HRC.out.below (hb3.mono hbs))
          have hsz3 := hb3.size
          clear hb3 k0 k1 k2 HFM
          go_wp2_with fail
          refine (HP.out _).mono ?_
          rintro e w4 ⟨A4, n4, c4, rfl, hn4, ho4, hb4⟩
          simp only [List.length_map] at hn4
          subst hn4
          rw [map_lst] at ho4
          have HB4 := Lib.hid (HB3.out.trans (hb4.mono (by omega))); have hsz4 := hb4.size
          have HB4' := Lib.hid (HB4.out.alloc (by omega) (.cells (reqAgg (J : Int) T A4 x2.length c4) 35))
          have HK4 := Lib.hid ((HK3.out.below hb4 (by omega)).alloc (.cells (reqAgg (J : Int) T A4 x2.length c4) 35))
          have HN4 := Lib.hid (Bk.new w4 35 (reqAgg (J : Int) T A4 x2.length c4))
          have HR4 := Lib.hid (((HR3.out.below (hb4.mono (by omega))).alloc (by omega) (.cells (reqAgg (J : Int) T A4 x2.length c4) 35)))
          have HO4 := Lib.hid ((Rd.of_own ho4).alloc (Nat.le_refl _) (.cells (reqAgg (J : Int) T A4 x2.length c4) 35))
          clear ho4 hb4
          unfold reqAgg at HB4' HK4 HN4 HR4 HO4 ⊢
          go_wp2_with fail
          refine (awake27_any _).mono ?_
          rintro e w5 ⟨rfl, hb5⟩
          have hsz5 := hb5.size
          simp at hsz5
          have HB5 := Lib.hid (HB4'.out.trans (hb5.mono (by simp; omega)))
          have hk5 := HK4.out.below hb5 (by simp; omega)
          have hn5 := HN4.out.below hb5 (by simp)
          have k0 : w5.cell? ⟨w.heap.size, 0, none⟩ = some (.int .i64 (J : Int)) := hk5.cell 0
          have k1 : w5.cell? ⟨w.heap.size, 1, none⟩ = some (.int .i64 T) := hk5.cell 1
          have k2 : w5.cell? ⟨w.heap.size, 2, none⟩ = some (.slice a2 x2.length c2) := hk5.cell 2
          have n0 : w5.cell? ⟨w4.heap.size, 0, none⟩ = some (.int .i64 (J : Int)) := hn5.cell 0
          have n1 : w5.cell? ⟨w4.heap.size, 1, none⟩ = some (.int .i64 T) := hn5.cell 1
          have n2 : w5.cell? ⟨w4.heap.size, 2, none⟩ = some (.slice A4 x2.length c4) := hn5.cell 2
          have HX5 := Lib.hid ((HO4.out.below (hb5.mono (by simp))).more (B' := w5.heap.size) (by omega))
          have HY5 := Lib.hid ((HR4.out.below (hb5.mono (by simp; omega))).more (B' := w5.heap.size) (by omega))
          clear hb5 hk5 hn5
          go_wp2_with fail
          refine (samereq_ok (J : Int) T A4 a2 x2.length c4 c2 x2 _ _ HX5.out HY5.out (Nat.le_refl _) m2).mono ?_
          rintro e w6 ⟨rfl, hb6⟩
          have HB6 := Lib.hid (HB5.out.trans (hb6.mono (by omega)))
          clear hb6
          go_wp2
          go_ret
          exact ⟨rfl, HB6.out⟩
end Go.Proofs.YtgidnkodgdoijaaDoor
