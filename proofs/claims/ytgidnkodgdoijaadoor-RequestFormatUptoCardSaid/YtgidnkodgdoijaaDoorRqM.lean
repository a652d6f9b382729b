/- The walk of request.Format, for an operation and a TTL that fit. -/
import Derived.Test.YtgidnkodgdoijaaDoorRqI
import Derived.Deep.RegionHeld3
namespace Go.Proofs.YtgidnkodgdoijaaDoor
open Go Go.RowKit Go.Proofs
set_option linter.unusedVariables false

def fmtVal (op ttl : Int) (ns : List (List UInt8)) : Value :=
  if op = 7 ∧ ns.length ≠ 1 then .tuple #[.string ⟨#[]⟩, .int .i64 4] else if 4096 < (Rq.ftext op ttl ns).length then .tuple #[.string ⟨#[]⟩, .int .i64 7] else .tuple #[.string (str (Rq.ftext op ttl ns)), .int .i64 0]
theorem jn_len : ∀ (l : List (List UInt8)), l ≠ [] → (Rq.jn l).length + 1 = (l.map (fun w => w.length + 1)).sum
  | [], h => absurd rfl h
  | [w], _ => by simp [Rq.jn]
  | w :: v :: r, _ => by
    have h := jn_len (v :: r) (by simp)
    show (w ++ 32 :: Rq.jn (v :: r)).length + 1 = _
    rw [List.map_cons, List.sum_cons, ← h]
    simp; omega
theorem own_cap {w : World} {base : Nat} {e : TypeId} {size n c : Nat} {A : Option Addr} {xs : List Value} (h : w.ownsRow base e size (.slice A n c) n xs) : n ≤ c := by
  rcases h.2 with ⟨hv, h0⟩ | ⟨g, cap, cur, hv, hbg, hh, hnc, hcm, hcs, htk⟩
  · injection hv with e1 e2 e3; omega
  · injection hv with e1 e2 e3; omega
theorem take_succ_map {ns : List (List UInt8)} {k : Nat} {x : List UInt8} (h : ns[k]? = some x) (ws : List (List UInt8)) : (ws ++ (ns.take (k + 1)).map Rq.quote).map str = (ws ++ (ns.take k).map Rq.quote).map str ++ [str (Rq.quote x)] := by
  obtain ⟨h1, h2⟩ := List.getElem?_eq_some_iff.1 h
  rw [List.take_succ_eq_append_getElem h1, h2]
  simp
set_option maxRecDepth 100000 in
set_option maxHeartbeats 16000000 in
theorem format_any (j : Nat) (ttl : Int) (A : Option Addr) (n c : Nat) (ns : List (List UInt8)) (w : World) (hr : Rd w w.heap.size 1 A n (strs (ns.map str))) (h0 : 1 ≤ j) (h7 : j ≤ 7) (ht : Rq.ttl (j : Int) ttl = true)
    (hN : n ≤ 1048576) (hm : ∀ x ∈ ns, x.length ≤ 1048576) (hL : (Rq.ftext (j : Int) ttl ns).length ≤ 140737488355328) (htab : Tb w) :
    Calls Tryd.prog 12 #[.agg #[.int .i64 (j : Int), .int .i64 ttl, .slice A n c]] w fun e w' => e = .returned (fmtVal (j : Int) ttl ns) ∧ Below w.heap.size w w' := by
  have hns : ns.length = n := by have := hr.1; rw [strs_length, List.length_map] at this; omega
  have hb1 : Below w.heap.size w (w.alloc (.cells #[.int .i64 (j : Int), .int .i64 ttl, .slice A n c] 35)) := (Below.refl _ _).alloc (Nat.le_refl _) _
  have HT := Lib.hid (ttl_any (j : Int) ttl)
  rw [ht] at HT
  have hbt : Rq.timed (j : Int) = true → 1 ≤ ttl ∧ ttl ≤ 1073741824 := by
    intro h
    unfold Rq.ttl at ht
    rw [h] at ht
    simpa using ht
  have HBT := Lib.hid hbt; have HR := Lib.hid hr; have HM := Lib.hid hm; have HTB := Lib.hid htab; have HLL := Lib.hid hL
  clear ht hbt hr hm htab hL
  by_cases hbad : (j : Int) = 7 ∧ ns.length ≠ 1
  · have hv : fmtVal (j : Int) ttl ns = .tuple #[.string ⟨#[]⟩, .int .i64 4] := by unfold fmtVal; rw [if_pos hbad]
    have HV := Lib.hid hv
    obtain ⟨g1, g2⟩ := hbad
    have hj7 : ((j : Int) == 7) = true := by simpa using g1
    have hn1 : ((n : Int) != 1) = true := by rw [bne_iff_ne]; omega
    clear hv g1 g2
    go_enter Tryd.func12, Tryd.ntmps12
    go_wp2_with fail
    refine (HT.out _).mono ?_
    rintro e w1 ⟨rfl, rfl⟩
    go_wp2
    go_ret2
    exact ⟨by rw [HV.out]; rfl, hb1⟩
  have hv : fmtVal (j : Int) ttl ns = if 4096 < (Rq.ftext (j : Int) ttl ns).length then .tuple #[.string ⟨#[]⟩, .int .i64 7] else .tuple #[.string (str (Rq.ftext (j : Int) ttl ns)), .int .i64 0] := by unfold fmtVal; rw [if_neg hbad]
  have HV := Lib.hid hv
  have hcond : (((j : Int) == 7) = true ∧ ((n : Int) != 1) = false) ∨ ((j : Int) == 7) = false := by
    by_cases h : (j : Int) = 7
    · left
      refine ⟨by simpa using h, ?_⟩
      have : ns.length = 1 := by
        by_cases h1 : ns.length = 1
        · exact h1
        · exact absurd ⟨h, h1⟩ hbad
      rw [← hns, this]; rfl
    · right; simpa using h
  clear hv hbad
  rcases hcond with ⟨hj7, hn1⟩ | hj7
  all_goals
    go_enter Tryd.func12, Tryd.ntmps12
    go_upto_region 7 with (refine (HT.out _).mono ?_; rintro e w1 ⟨rfl, rfl⟩)
    go_cut [4] (fun v4 wx => ∃ G : Nat, v4 = .slice (some ⟨G, 0, none⟩) 1 1 ∧ wx.ownsRow (w.heap.size + 1) 9 1 (.slice (some ⟨G, 0, none⟩) 1 1) 1 (strs [str (Rq.wd j)]) ∧ Below w.heap.size w wx ∧
      Bk wx w.heap.size 35 #[.int .i64 (j : Int), .int .i64 ttl, .slice A n c] ∧ w.heap.size < wx.heap.size)
    case first =>
      have hX : ∀ W w9 : World, w9 = W.alloc (.cells wdCells 9) → W = (w.alloc (.cells #[.int .i64 (j : Int), .int .i64 ttl, .slice A n c] 35)).drew → w9.heap.size = w.heap.size + 2 ∧ Bk w9 w.heap.size 35 #[.int .i64 (j : Int), .int .i64 ttl, .slice A n c] ∧
          w9.cell? ⟨w.heap.size + 1, j, none⟩ = some (.string (str (Rq.wd j))) ∧ Below w.heap.size w w9 := by
        intro W w9 h1 h2
        have hWs : W.heap.size = w.heap.size + 1 := by rw [h2]; simp
        refine ⟨by rw [h1]; simp [hWs], ?_, ?_, ?_⟩
        · rw [h1, h2]; exact (Bk.new w _ _).drew.alloc _
        · rw [h1, ← hWs, (Bk.new W 9 wdCells).cell, wdCells_at j (by omega)]
        · rw [h1, h2]; exact hb1.drew.alloc (by simp) _
      have HX := Lib.hid hX; clear hX
      have hj8 : ¬ ((8 : Int) ≤ (j : Int)) := by omega
      have k0 : (w.alloc (.cells #[.int .i64 (j : Int), .int .i64 ttl, .slice A n c] 35)).cell? ⟨w.heap.size, 0, none⟩ = some (.int .i64 (j : Int)) := (Bk.new w _ _).cell 0
      refine wp_region_any (by kernel_rfl) ?_
      change wpAny _ _ _ _ 7 #[false, false, false, false, false, false, false] _ (World.drew _)
      refine wpAny_take (i := 1) (v := .pointer (some ⟨w.heap.size, 0, none⟩)) rfl (by kernel_rfl) (by kernel_rfl) (by kernel_rfl) (fun _ _ _ h => h) (Or.inl ⟨by rfl, fun w => ?_⟩) ?_
      · go_simp
      try simp only [Act.put, List.setIfInBounds_toArray, List.set_cons_zero, List.set_cons_succ]
      refine wpAny_ready (rs := [0, 2]) (by kernel_rfl) (by simp) ?_
      refine AllReady.cons rfl (fun K hK => ?_) (AllReady.cons rfl (fun K hK => ?_) AllReady.nil)
      · skip
        go_simp
        refine (words_any _).mono ?_
        rintro e w9 ⟨rfl, hw9⟩
        obtain ⟨hs9, hk9, hc9, hb9⟩ := HX.out _ w9 hw9 rfl
        have k9 : w9.cell? ⟨w.heap.size, 0, none⟩ = some (.int .i64 (j : Int)) := hk9.cell 0
        clear hw9
        refine hK _ _ ?_
        clear hK K
        try simp only [Act.put, List.setIfInBounds_toArray, List.set_cons_zero, List.set_cons_succ]
        refine wpAny_ready (rs := [2]) (by kernel_rfl) (by simp) ?_
        refine AllReady.cons rfl (fun K hK => ?_) AllReady.nil
        go_simp
        refine hK _ _ ?_
        clear hK K
        try simp only [Act.put, List.setIfInBounds_toArray, List.set_cons_zero, List.set_cons_succ]
        refine wpAny_take (i := 3) (v := .pointer (some ⟨w.heap.size + 1, j, none⟩)) rfl (by kernel_rfl) (by kernel_rfl) (by kernel_rfl) (fun _ _ _ h => h) (Or.inl ⟨by rfl, fun w => ?_⟩) ?_
        · go_simp
        try simp only [Act.put, List.setIfInBounds_toArray, List.set_cons_zero, List.set_cons_succ]
        refine wpAny_ready (rs := [4]) (by kernel_rfl) (by simp) ?_
        refine AllReady.cons rfl (fun K hK => ?_) AllReady.nil
        go_simp
        refine hK _ _ ?_
        clear hK K
        try simp only [Act.put, List.setIfInBounds_toArray, List.set_cons_zero, List.set_cons_succ]
        refine wpAny_ready (rs := [5]) (by kernel_rfl) (by simp) ?_
        refine AllReady.cons rfl (fun K hK => ?_) AllReady.nil
        go_simp
        refine hK _ _ ?_
        clear hK K
        try simp only [Act.put, List.setIfInBounds_toArray, List.set_cons_zero, List.set_cons_succ]
        refine wpAny_ready (rs := [6]) (by kernel_rfl) (by simp) ?_
        refine AllReady.cons rfl (fun K hK => ?_) AllReady.nil
        go_simp
        refine hK _ _ ?_
        clear hK K
        try simp only [Act.put, List.setIfInBounds_toArray, List.set_cons_zero, List.set_cons_succ]
        refine wpAny_done (by kernel_rfl) ?_ _
        go_step
        go_wp2_with fail
        go_meet
        case rel => exact ⟨w.heap.size + 2, rfl, by have := own_built w9 (w.heap.size + 1) 9 #[.string (str (Rq.wd j))] 1 rfl (by decide) (by omega); rw [hs9] at this; exact this, hb9.alloc (by omega) _, hk9.alloc _, by simp; omega⟩
      · go_simp
        refine hK _ _ ?_
        clear hK K
        try simp only [Act.put, List.setIfInBounds_toArray, List.set_cons_zero, List.set_cons_succ]
        refine wpAny_ready (rs := [0]) (by kernel_rfl) (by simp) ?_
        refine AllReady.cons rfl (fun K hK => ?_) AllReady.nil
        go_simp
        refine (words_any _).mono ?_
        rintro e w9 ⟨rfl, hw9⟩
        obtain ⟨hs9, hk9, hc9, hb9⟩ := HX.out _ w9 hw9 rfl
        have k9 : w9.cell? ⟨w.heap.size, 0, none⟩ = some (.int .i64 (j : Int)) := hk9.cell 0
        clear hw9
        refine hK _ _ ?_
        clear hK K
        try simp only [Act.put, List.setIfInBounds_toArray, List.set_cons_zero, List.set_cons_succ]
        refine wpAny_take (i := 3) (v := .pointer (some ⟨w.heap.size + 1, j, none⟩)) rfl (by kernel_rfl) (by kernel_rfl) (by kernel_rfl) (fun _ _ _ h => h) (Or.inl ⟨by rfl, fun w => ?_⟩) ?_
        · go_simp
        try simp only [Act.put, List.setIfInBounds_toArray, List.set_cons_zero, List.set_cons_succ]
        refine wpAny_ready (rs := [4]) (by kernel_rfl) (by simp) ?_
        refine AllReady.cons rfl (fun K hK => ?_) AllReady.nil
        go_simp
        refine hK _ _ ?_
        clear hK K
        try simp only [Act.put, List.setIfInBounds_toArray, List.set_cons_zero, List.set_cons_succ]
        refine wpAny_ready (rs := [5]) (by kernel_rfl) (by simp) ?_
        refine AllReady.cons rfl (fun K hK => ?_) AllReady.nil
        go_simp
        refine hK _ _ ?_
        clear hK K
        try simp only [Act.put, List.setIfInBounds_toArray, List.set_cons_zero, List.set_cons_succ]
        refine wpAny_ready (rs := [6]) (by kernel_rfl) (by simp) ?_
        refine AllReady.cons rfl (fun K hK => ?_) AllReady.nil
        go_simp
        refine hK _ _ ?_
        clear hK K
        try simp only [Act.put, List.setIfInBounds_toArray, List.set_cons_zero, List.set_cons_succ]
        refine wpAny_done (by kernel_rfl) ?_ _
        go_step
        go_wp2_with fail
        go_meet
        case rel => exact ⟨w.heap.size + 2, rfl, by have := own_built w9 (w.heap.size + 1) 9 #[.string (str (Rq.wd j))] 1 rfl (by decide) (by omega); rw [hs9] at this; exact this, hb9.alloc (by omega) _, hk9.alloc _, by simp; omega⟩
    case rest =>
      obtain ⟨G, rfl, ho, hb, hk, hg⟩ := hcut
      have HO := Lib.hid ho; have HB := Lib.hid hb; have HK := Lib.hid hk
      have k0 : wc.cell? ⟨w.heap.size, 0, none⟩ = some (.int .i64 (j : Int)) := hk.cell 0
      have k1 : wc.cell? ⟨w.heap.size, 1, none⟩ = some (.int .i64 ttl) := hk.cell 1
      clear ho hb hk hj7
      go_upto_if 42 with (refine (timed_any (j : Int) _).mono ?_; rintro e w9 ⟨rfl, rfl⟩)
      go_cut [4] (fun v4 wx => ∃ (ws : List (List UInt8)) (A4 : Option Addr) (m c4 : Nat), v4 = .slice A4 m c4 ∧ ws.length = m ∧ m ≤ 2 ∧ 0 < m ∧ Rq.fwords (j : Int) ttl ns = ws ++ ns.map Rq.quote ∧ wx.ownsRow (w.heap.size + 1) 9 1 (.slice A4 m c4) m (strs (ws.map str)) ∧
        Below w.heap.size w wx ∧ Bk wx w.heap.size 35 #[.int .i64 (j : Int), .int .i64 ttl, .slice A n c] ∧ w.heap.size < wx.heap.size)
      case first =>
        have hjn : ((j : Int)).toNat = j := by omega
        cases htm : Rq.timed (j : Int)
        · have hfw : Rq.fwords (j : Int) ttl ns = [Rq.wd j] ++ ns.map Rq.quote := by unfold Rq.fwords; rw [htm, hjn]; rfl
          have HF := Lib.hid hfw; clear hfw htm
          go_wp2_with fail
          go_meet
          case rel => exact ⟨[Rq.wd j], _, 1, 1, rfl, rfl, by omega, by omega, HF.out, HO.out, HB.out, HK.out, hg⟩
        · have hfw : Rq.fwords (j : Int) ttl ns = [Rq.wd j, Lib.itoa ttl] ++ ns.map Rq.quote := by unfold Rq.fwords; rw [htm, hjn]; rfl
          have hbt := HBT.out htm
          have HF := Lib.hid hfw; clear hfw htm
          have HTB2 := Lib.hid (HTB.out.past HB.out)
          go_wp2_with fail
          refine (itoa_any ttl (by omega) (by omega) _ HTB2.out).mono ?_
          rintro e w5 ⟨rfl, hb5⟩
          have hs5 := hb5.size
          have HB5 := Lib.hid (HB.out.trans (hb5.mono (by omega))); have HK5 := Lib.hid (HK.out.below hb5 hg); have HO5 := Lib.hid (own_past HO.out hb5)
          clear hb5
          go_wp2_with (at_builtin; refine app_str (by rfl) _ _ rfl (base := w.heap.size + 1) (xs := [str (Rq.wd j)]) rfl (HO5.out.alloc _) rfl (rd_one_str w5 (str (Lib.itoa ttl))) (by omega) (by simp; omega) ?_)
          intro A6 c6 w6 ho6 hg6 hc6
          have HB6 := Lib.hid (own_below (own_low HO5.out (Nat.le_succ _)) HB5.out _ hg6 (by omega))
          have HK6 := Lib.hid ((HK5.out.alloc _).grown hg6 (by intro e; have := (HO5.out.lt _ e.symm).1; omega))
          have hs6 : w.heap.size < w6.heap.size := by have := hg6.size; simp at this; omega
          have HO6 := Lib.hid (show w6.ownsRow (w.heap.size + 1) 9 1 (.slice A6 2 c6) 2 (strs ([Rq.wd j, Lib.itoa ttl].map str)) from ho6)
          clear ho6 hg6 hc6
          go_wp2_with fail
          go_meet
          case rel => exact ⟨[Rq.wd j, Lib.itoa ttl], A6, 2, c6, rfl, rfl, by omega, by omega, HF.out, HO6.out, HB6.out, HK6.out, hs6⟩
      case rest =>
        obtain ⟨ws, A4, m, c4, rfl, hwm, hm2, hm0, hfw, ho4, hb4, hk4, hg4⟩ := hcut
        have HO4 := Lib.hid ho4; have HB4 := Lib.hid hb4; have HK4 := Lib.hid hk4; have HF := Lib.hid hfw; have HWM := Lib.hid hwm
        have k2 : wc.cell? ⟨w.heap.size, 2, none⟩ = some (.slice A n c) := hk4.cell 2
        clear ho4 hb4 hk4 hfw hwm HO HB HK k0 k1
        go_wp2_with fail
        go_loopw [4, 52] (fun v4 vi wr => ∃ (k : Nat) (A5 : Option Addr) (c5 : Nat), k ≤ n ∧ vi = .int .i64 k ∧ v4 = .slice A5 (m + k) c5 ∧ wr.ownsRow (w.heap.size + 1) 9 1 (.slice A5 (m + k) c5) (m + k) (strs ((ws ++ (ns.take k).map Rq.quote).map str)) ∧
          Below w.heap.size w wr ∧ w.heap.size < wr.heap.size) (fun _ vi _ => n - (intOf vi).toNat)
        case atStart => exact ⟨0, A4, c4, by omega, rfl, rfl, by simpa using HO4.out, HB4.out, hg4⟩
        case round =>
          obtain ⟨k, A5, c5, hk, rfl, rfl, ho5, hb5, hg5⟩ := hrel
          have HO5 := Lib.hid ho5; have HB5 := Lib.hid hb5
          have HR5 := Lib.hid (HR.out.below hb5)
          clear ho5 hb5
          by_cases hlt : k < n
          · obtain ⟨x, hx⟩ : ∃ x, ns[k]? = some x := ⟨_, List.getElem?_eq_getElem (by omega)⟩
            have hxm := HM.out x (List.mem_of_getElem? hx)
            obtain ⟨b, off, rfl, hbb, hcs⟩ := HR5.out.2 (by rw [strs_length, List.length_map]; omega)
            have hc : wr.cell? ⟨b, off + k, none⟩ = some (.string (str x)) := hcs k _ (by rw [strs_at, List.getElem?_map, hx]; rfl)
            have hts := take_succ_map hx ws
            have HTS := Lib.hid hts
            clear hcs hx hts
            go_wp2_with fail
            refine (quote_any (str x) (by rw [str_size]; omega) _).mono ?_
            rw [lst_str]
            rintro e w6 ⟨rfl, hb6⟩
            have hs6 := hb6.size
            have HB6 := Lib.hid (HB5.out.trans (hb6.mono (by omega))); have HO6 := Lib.hid (own_past HO5.out hb6)
            clear hb6
            go_wp2_with (at_builtin; refine app_str (by rfl) _ _ rfl (base := w.heap.size + 1) rfl (HO6.out.alloc _) rfl (rd_one_str w6 (str (Rq.quote x))) (by omega) (by simp; omega) ?_)
            intro A7 c7 w7 ho7 hg7 hc7
            have HB7 := Lib.hid (own_below (own_low HO6.out (Nat.le_succ _)) HB6.out _ hg7 (by omega))
            have hs7 : w.heap.size < w7.heap.size := by have := hg7.size; simp at this; omega
            have HO7 := Lib.hid (show w7.ownsRow (w.heap.size + 1) 9 1 (.slice A7 (m + k + 1) c7) (m + k + 1) (strs ((ws ++ (ns.take (k + 1)).map Rq.quote).map str)) by rw [HTS.out]; simpa using ho7)
            clear ho7 hg7 hc7
            go_wp2
            go_roundw
            case rel => exact ⟨k + 1, A7, c7, by omega, by go_num, rfl, HO7.out, HB7.out, hs7⟩
            case measure => simp [intOf]; omega
          · have hkn : k = n := by omega
            have htk : ns.take k = ns := by rw [hkn, ← hns, List.take_length]
            have ho6 := HO5.out
            rw [htk, ← HF.out] at ho6
            have hcap := own_cap ho6
            have HR6 := Lib.hid (Rd.of_own ho6)
            clear ho6 htk hkn
            go_wp2_with fail
            refine (join_any A5 (m + k) c5 (Rq.fwords (j : Int) ttl ns) _ _ HR6.out (by omega) (Nat.le_refl _) hcap (by omega) HLL.out).mono ?_
            rintro e w7 ⟨rfl, hb7⟩
            have HB7 := Lib.hid (HB5.out.trans (hb7.mono (by omega)))
            clear hb7
            have hsz : (str (Rq.jn (Rq.fwords (j : Int) ttl ns))).size = (Rq.ftext (j : Int) ttl ns).length := str_size _
            by_cases hbig : 4096 < (Rq.ftext (j : Int) ttl ns).length
            · have hv := HV.out
              rw [if_pos hbig] at hv
              have HV2 := Lib.hid hv; clear hv
              go_wp2
              go_ret2
              exact ⟨by rw [HV2.out]; rfl, HB7.out⟩
            · have hv := HV.out
              rw [if_neg hbig] at hv
              have HV2 := Lib.hid hv; clear hv
              go_wp2
              go_ret2
              exact ⟨by rw [HV2.out]; rfl, HB7.out⟩
end Go.Proofs.YtgidnkodgdoijaaDoor
