/- The walk of request.Quote. -/
import Derived.Test.YtgidnkodgdoijaaDoorRqQ
namespace Go.Proofs.YtgidnkodgdoijaaDoor
open Go Go.RowKit
set_option linter.unusedVariables false

theorem quote_ne {l : List UInt8} (h : l ≠ []) : Rq.quote l = Rq.qs l := by unfold Rq.quote; rw [if_neg h]
theorem Bd.past {w w' : World} {b d : Nat} {out : List UInt8} (h : Bd w b d out) (hb : Below w.heap.size w w') : Bd w' b d out := by
  obtain ⟨p, v, hp, hk, ho⟩ := h
  exact ⟨p, v, hp, hk.below hb hk.lt, own_past ho hb⟩
theorem hd_get (n : Nat) (h : n < (⟨#[48, 49, 50, 51, 52, 53, 54, 55, 56, 57, 65, 66, 67, 68, 69, 70]⟩ : ByteArray).size) : (⟨#[48, 49, 50, 51, 52, 53, 54, 55, 56, 57, 65, 66, 67, 68, 69, 70]⟩ : ByteArray)[n] = Rq.hd n := by
  have : ∀ i : Fin 16, (⟨#[48, 49, 50, 51, 52, 53, 54, 55, 56, 57, 65, 66, 67, 68, 69, 70]⟩ : ByteArray)[i.val]'(by exact i.isLt) = Rq.hd i.val := by decide
  exact this ⟨n, h⟩
set_option maxRecDepth 100000 in
set_option maxHeartbeats 8000000 in
theorem quote_any (s : ByteArray) (hs : s.size ≤ 35184372088832) (w : World) : Calls Tryd.prog 19 #[.string s] w fun e w' => e = .returned (.string (str (Rq.quote (lst s)))) ∧ Below w.heap.size w w' := by
  by_cases h0 : lst s = []
  · have hs0 : s = ⟨#[]⟩ := by rw [← str_lst s, h0]; rfl
    subst hs0
    go_enter Tryd.func19, Tryd.ntmps19
    go_wp2
    go_ret
    exact ⟨rfl, Below.refl _ _⟩
  have hse : s.toList.isEmpty = false := by rw [← str_lst s]; exact str_ne h0
  have HQ := Lib.hid (quote_ne h0)
  clear h0
  obtain ⟨cc, w2, hcv, hbl2, hsz2, hcc, hcells, hfz⟩ := conv_bytes s (w.alloc (.cells #[.pointer none, .slice none 0 0] 65))
  have hsz1 : (w.alloc (.cells #[.pointer none, .slice none 0 0] 65)).heap.size = w.heap.size + 1 := by simp
  rw [hsz1] at hcv hbl2 hsz2 hcells
  have hbd0 : Bd (w.alloc (.cells #[.pointer none, .slice none 0 0] 65)) w.heap.size (w.heap.size + 1) [] := ⟨_, _, .inl rfl, Bk.new _ _ _, World.ownsRow_nil _ _ _ _⟩
  have HBD0 := Lib.hid (hbd0.past (by rw [hsz1]; exact hbl2))
  have HB0 := Lib.hid (((Below.refl w.heap.size w).alloc (Nat.le_refl _) (.cells #[.pointer none, .slice none 0 0] 65)).trans (hbl2.mono (by omega)))
  have HC := Lib.hid hcells
  clear hbl2 hcells hfz hbd0 hsz1
  go_enter Tryd.func19, Tryd.ntmps19
  go_wp2_with fail
  go_loopw [11] (fun vj wr => ∃ j : Nat, j ≤ s.size ∧ vj = .int .i64 j ∧ Bd wr w.heap.size (w.heap.size + 1) (Rq.qs ((lst s).take j)) ∧ Below w.heap.size w wr ∧ wr.heap[w.heap.size + 1]? = w2.heap[w.heap.size + 1]? ∧ w.heap.size + 1 < wr.heap.size) (fun vj _ => s.size - (intOf vj).toNat)
  case atStart => exact ⟨0, by omega, rfl, HBD0.out, HB0.out, rfl, hsz2⟩
  case round =>
    obtain ⟨j, hj, rfl, hbd, hb, hd, hdl⟩ := hrel
    have HBD := Lib.hid hbd; have HB := Lib.hid hb; have HD := Lib.hid hd
    clear hbd hb hd
    by_cases hlt : j < s.size
    · have hat := lst_at s j hlt
      have hc : wr.cell? ⟨w.heap.size + 1, j, none⟩ = some (.int .u8 (s[j].toNat : Int)) := (cell_heap HD.out j).trans (HC.out j _ hat)
      have hqt := Rq.qs_take hat
      have hql := (Rq.qs_len ((lst s).take j)).2
      have htl : ((lst s).take j).length ≤ j := by rw [List.length_take]; omega
      have HQT := Lib.hid hqt
      clear hat hqt
      go_wp2_with fail
      refine (plain_any s[j] _).mono ?_
      rintro e w9 ⟨rfl, rfl⟩
      cases hp : Rq.pl s[j]
      · have hqb : Rq.qb s[j] = [37, Rq.hd (s[j].toNat / 16), Rq.hd (s[j].toNat % 16)] := by unfold Rq.qb; rw [hp]; rfl
        rw [hqb] at HQT
        have hlt := s[j].toNat_lt
        clear hqb hp
        generalize s[j] = y at *
        go_wp2_with fail
        refine (wb_any w.heap.size (w.heap.size + 1) _ 37 _ HBD.out (by omega) hdl (by omega)).mono ?_
        rintro e w4 ⟨rfl, hbd4, hk4⟩
        have HBD4 := Lib.hid hbd4; have HK4 := Lib.hid hk4; have hdl4 := hk4.2.2
        clear hbd4 hk4
        go_wp2_with fail
        rw [hd_get]
        refine (wb_any w.heap.size (w.heap.size + 1) _ _ _ HBD4.out (by omega) hdl4 (by simp; omega)).mono ?_
        rintro e w5 ⟨rfl, hbd5, hk5⟩
        have HBD5 := Lib.hid hbd5; have HK5 := Lib.hid (HK4.out.trans hk5); have hdl5 := hk5.2.2
        clear hbd5 hk5
        go_wp2_with fail
        rw [hd_get]
        refine (wb_any w.heap.size (w.heap.size + 1) _ _ _ HBD5.out (by omega) hdl5 (by simp; omega)).mono ?_
        rintro e w6 ⟨rfl, hbd6, hk6⟩
        have hcat : Rq.qs ((lst s).take j) ++ [37] ++ [Rq.hd (y.toNat / 16)] ++ [Rq.hd (y.toNat % 16)] = Rq.qs ((lst s).take (j + 1)) := by rw [HQT.out]; simp
        rw [hcat] at hbd6
        have HBD6 := Lib.hid hbd6; have HK6 := Lib.hid (HK5.out.trans hk6)
        clear hbd6 hk6 hcat
        go_wp2
        go_roundw
        case rel => exact ⟨j + 1, by omega, by go_num, HBD6.out, HB.out.trans HK6.out.1, (HK6.out.2.1 _ (Nat.le_refl _) (by omega)).trans HD.out, HK6.out.2.2⟩
        case measure => simp [intOf]; omega
      · have hqb : Rq.qb s[j] = [s[j]] := by unfold Rq.qb; rw [hp]; rfl
        rw [hqb] at HQT
        clear hqb hp
        go_wp2_with fail
        refine (wb_any w.heap.size (w.heap.size + 1) _ s[j] _ HBD.out (by omega) hdl (by omega)).mono ?_
        rintro e w4 ⟨rfl, hbd4, hk4⟩
        have HBD4 := Lib.hid hbd4; have HK4 := Lib.hid hk4
        clear hbd4 hk4
        go_wp2
        go_roundw
        case rel => exact ⟨j + 1, by omega, by go_num, by rw [HQT.out]; exact HBD4.out, HB.out.trans HK4.out.1, (HK4.out.2.1 _ (Nat.le_refl _) (by omega)).trans HD.out, HK4.out.2.2⟩
        case measure => simp [intOf]; omega
    · have hjn : j = s.size := by omega
      have htk : (lst s).take j = lst s := by rw [hjn, ← lst_length, List.take_length]
      rw [htk] at HBD
      clear hjn htk
      go_wp2_with fail
      refine (bstr_any w.heap.size (w.heap.size + 1) _ _ HBD.out (by omega) hdl).mono ?_
      rintro e w4 ⟨rfl, hb4⟩
      have HB4 := Lib.hid (HB.out.trans hb4)
      clear hb4
      go_wp2
      go_ret
      exact ⟨by rw [HQ.out]; rfl, HB4.out⟩
end Go.Proofs.YtgidnkodgdoijaaDoor
