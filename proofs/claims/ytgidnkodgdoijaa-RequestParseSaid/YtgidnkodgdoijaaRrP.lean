/- The walk of the reference's Parse. -/
import Derived.Test.YtgidnkodgdoijaaRqA
import Derived.Test.YtgidnkodgdoijaaRrU
import Derived.BigQuiet
namespace Go.Proofs.Ytgidnkodgdoijaa
open Go Go.RowKit
set_option linter.unusedVariables false

set_option maxRecDepth 100000 in
set_option maxHeartbeats 8000000 in
theorem rparse_any (s : ByteArray) (w : World) : Calls Try.prog 14 #[.string s] w (RetReq (Rq.parse (lst s)) w) := by
  by_cases hlong : 4096 < s.size
  · have hp : Rq.parse (lst s) = ⟨0, 0, [], 7⟩ := by unfold Rq.parse; rw [if_pos (by rw [lst_length]; exact hlong)]
    have HP := Lib.hid hp; clear hp
    go_enter Try.func14, Try.ntmps14
    go_wp2
    refine bodyPost_ret (results_req (p := 2) (u := 3) rfl _ _ w.heap.size _ rfl rfl (Bk.new w _ _)) rfl (RetReq.bad HP.out ((Below.refl _ _).alloc (Nat.le_refl _) _))
  have hs : s.size ≤ 4096 := by omega
  have hpar : Rq.parse (lst s) = Rq.words (Rq.oper ((Rq.spl (lst s)).headD [])) (Rq.spl (lst s)).tail := by unfold Rq.parse; rw [if_neg (by rw [lst_length]; omega)]
  obtain ⟨hd, tl, hsp⟩ : ∃ hd tl, Rq.spl (lst s) = hd :: tl := by
    cases h : Rq.spl (lst s) with
    | nil => exact absurd h (Rq.spl_ne _)
    | cons a b => exact ⟨a, b, rfl⟩
  rw [hsp] at hpar
  have HPAR := Lib.hid (show Rq.parse (lst s) = Rq.words (Rq.oper hd) tl from hpar)
  have hst := rwords_any s (by omega)
  rw [hsp] at hst
  have HST := Lib.hid hst
  have hlen : tl.length ≤ 4096 := by have := Rq.spl_len (lst s); rw [hsp, lst_length] at this; simp at this; omega
  have hmem : ∀ x ∈ tl, x.length ≤ 4096 := by
    intro x hx
    have := Rq.spl_mem (lst s) x (by rw [hsp]; exact List.mem_cons_of_mem _ hx)
    rw [lst_length] at this; omega
  have HMEM := Lib.hid hmem
  clear hlong hpar hsp hst hmem
  go_enter Try.func14, Try.ntmps14
  go_wp2_with fail
  refine (HST.out _).mono ?_
  rintro e w2 ⟨A2, c2, rfl, ho2, hb2⟩
  have hg2 : w.heap.size < w2.heap.size := by have := hb2.size; simp at this; omega
  have HG := Lib.hid ((Bk.new w 32 #[.int .i64 0, .int .i64 0, .slice none 0 0]).below hb2 (by simp))
  have hn : (List.map str (hd :: tl)).length = tl.length + 1 := by simp
  rw [hn] at ho2 ⊢
  obtain ⟨ga, rfl, hga, hga2, hcap, hcell⟩ := row_head ho2
  obtain ⟨A3, c3, htail, hr3, hc3⟩ := tail_any (Rd.of_own ho2) hcap
  have HR3 := Lib.hid (show Rd w2 w2.heap.size 1 A3 tl.length (strs (tl.map str)) from hr3)
  have hga3 : w.heap.size < ga := by simp at hga; omega
  have HB2 := Lib.hid (((Below.refl w.heap.size w).alloc (Nat.le_refl _) (.cells #[.int .i64 0, .int .i64 0, .slice none 0 0] 32)).trans (hb2.mono (by simp)))
  clear ho2 hb2 hr3 hn hga
  have hg2' : w.heap.size < w2.heap.size := hg2
  go_wp2_with fail
  go_loopw [6] (fun vj wr => ∃ j v : Nat, 1 ≤ j ∧ j ≤ 8 ∧ vj = .int .i64 j ∧ Bk wr w2.heap.size 32 #[.int .i64 v, .int .i64 0, .slice none 0 0] ∧ Below w2.heap.size w2 wr ∧ w2.heap.size < wr.heap.size ∧
      ((v = 0 ∧ ∀ i, 0 < i → i < j → Rq.wd i ≠ hd) ∨ (0 < v ∧ v < j ∧ Rq.wd v = hd))) (fun vj _ => 8 - (intOf vj).toNat)
  case atStart => exact ⟨1, 0, by omega, by omega, rfl, Bk.new _ _ _, (Below.refl _ _).alloc (Nat.le_refl _) _, by simp, .inl ⟨rfl, fun i h1 h2 => by omega⟩⟩
  case round =>
  obtain ⟨j, v, hj1, hj8, rfl, hk, hbw, hgw, hv⟩ := hrel
  have HK := Lib.hid hk; have HBR := Lib.hid hbw; have HV := Lib.hid hv
  have hcr : wr.cell? ⟨ga, 0, none⟩ = some (.string (str hd)) := (hbw.cell (p := ⟨ga, 0, none⟩) hga2).trans hcell
  clear hk hbw hv
  by_cases hlt : j < 8
  · by_cases he : Rq.wd j = hd
    · have hb : ((str hd).toList == (str (Rq.wd j)).toList) = true := by rw [toList_lst, toList_lst, lst_str, lst_str, beq_iff_eq]; exact he.symm
      have HW := Lib.hid (fun w' => rword_any j (by omega) hlt w')
      have HE := Lib.hid he
      clear he
      go_wp2_with fail
      go_quiet (exact Calls.quiet_of_same (HW.out _))
      have k0 : (wr.drewN nq).cell? ⟨w2.heap.size, 0, none⟩ = some (.int .i64 v) := HK.out.cell 0
      have f0 : (wr.drewN nq).frozen? ⟨w2.heap.size, 0, none⟩ = false := HK.out.frozen 0
      have HK3 := Lib.hid (HK.out.drewN nq); have HB3 := Lib.hid (below_drewN HBR.out nq)
      have hgn : w2.heap.size < (wr.drewN nq).heap.size := hgw
      generalize wr.drewN nq = wn at *
      go_wp2
      go_roundw
      case rel => exact ⟨j + 1, j, by omega, by omega, by go_num, HK3.out.set_ 0 _, HB3.out.setCell (Nat.le_refl _) _, by simpa using hgn, .inr ⟨by omega, by omega, HE.out⟩⟩
      case measure => simp [intOf]; omega
    · have hb : ((str hd).toList == (str (Rq.wd j)).toList) = false := by rw [toList_lst, toList_lst, lst_str, lst_str, beq_eq_false_iff_ne]; exact fun e => he e.symm
      have HW := Lib.hid (fun w' => rword_any j (by omega) hlt w')
      have hv2 : (v = 0 ∧ ∀ i, 0 < i → i < j + 1 → Rq.wd i ≠ hd) ∨ (0 < v ∧ v < j + 1 ∧ Rq.wd v = hd) := by
        rcases HV.out with ⟨h1, h2⟩ | ⟨h1, h2, h3⟩
        · left
          refine ⟨h1, fun i g1 g2 => ?_⟩
          by_cases g3 : i = j
          · rw [g3]; exact he
          · exact h2 i g1 (by omega)
        · right; exact ⟨h1, by omega, h3⟩
      have HV2 := Lib.hid hv2
      clear he hv2
      go_wp2_with fail
      go_quiet (exact Calls.quiet_of_same (HW.out _))
      have HK3 := Lib.hid (HK.out.drewN nq); have HB3 := Lib.hid (below_drewN HBR.out nq)
      have hgn : w2.heap.size < (wr.drewN nq).heap.size := hgw
      generalize wr.drewN nq = wn at *
      go_wp2
      go_roundw
      case rel => exact ⟨j + 1, v, by omega, by omega, by go_num, HK3.out, HB3.out, hgn, HV2.out⟩
      case measure => simp [intOf]; omega
  have hop : Rq.oper hd = (v : Int) := by
    have hj : j = 8 := by omega
    subst hj
    rcases HV.out with ⟨h1, h2⟩ | ⟨h1, h2, h3⟩
    · rw [h1]; exact Rq.oper_none h2
    · rw [← h3]; exact Rq.oper_at v h1 h2
  have hv7 : v ≤ 7 := by rcases HV.out with ⟨h1, _⟩ | ⟨_, h2, _⟩ <;> omega
  have hpar2 := HPAR.out
  rw [hop] at hpar2
  replace HPAR := Lib.hid hpar2
  obtain ⟨op, hopv⟩ : ∃ op : Int, op = (v : Int) := ⟨_, rfl⟩
  rw [← hopv] at hpar2
  replace HPAR := Lib.hid hpar2
  have hkk := HK.out
  rw [← hopv] at hkk
  replace HK := Lib.hid hkk
  have hopb : 0 ≤ op ∧ op ≤ 7 := by omega
  have hg3 : w.heap.size < wr.heap.size := by omega
  have HG3 := Lib.hid (HG.out.below HBR.out hg2)
  have HR4 := Lib.hid (HR3.out.below HBR.out)
  have HB3 := Lib.hid (HB2.out.trans (HBR.out.mono (by omega)))
  have k0 : wr.cell? ⟨w2.heap.size, 0, none⟩ = some (.int .i64 op) := HK.out.cell 0
  have z0 : wr.cell? ⟨w.heap.size, 0, none⟩ = some (.int .i64 0) := HG3.out.cell 0
  have z1 : wr.cell? ⟨w.heap.size, 1, none⟩ = some (.int .i64 0) := HG3.out.cell 1
  have z2 : wr.cell? ⟨w.heap.size, 2, none⟩ = some (.slice none 0 0) := HG3.out.cell 2
  have y0 : wr.frozen? ⟨w.heap.size, 0, none⟩ = false := HG3.out.frozen 0
  have y1 : wr.frozen? ⟨w.heap.size, 1, none⟩ = false := HG3.out.frozen 1
  have y2 : wr.frozen? ⟨w.heap.size, 2, none⟩ = false := HG3.out.frozen 2
  clear hop hpar2 hkk hopv HV hv7 hcell hcr
  by_cases hop0 : op = 0
  · subst hop0
    have hp : Rq.parse (lst s) = ⟨0, 0, [], 4⟩ := HPAR.out
    have HP := Lib.hid hp; clear hp
    go_wp2
    have hz := zero3 HG3.out HB3.out
    exact bodyPost_ret (results_req (p := 2) (u := 3) rfl _ _ w.heap.size _ rfl rfl hz.1) rfl (RetReq.bad HP.out hz.2)
  · have hopn : (op == 0) = false := by simpa using hop0
    go_upto_if 40 with (refine (rtimed_any op _).mono ?_; rintro e w9 ⟨rfl, rfl⟩)
    go_cut [4] (fun vl wx => ∃ (ttl : Int) (L : List (List UInt8)) (A : Option Addr) (n c : Nat), vl = .slice A n c ∧ n ≤ c ∧ L.length = n ∧ Bk wx w2.heap.size 32 #[.int .i64 op, .int .i64 ttl, .slice none 0 0] ∧ Bk wx w.heap.size 32 #[.int .i64 0, .int .i64 0, .slice none 0 0] ∧
      Rd wx w2.heap.size 1 A n (strs (L.map str)) ∧ Below w.heap.size w wx ∧ w2.heap.size < wx.heap.size ∧ Rq.parse (lst s) = Rq.rest op ttl L ∧ n ≤ 5000 ∧ (∀ x ∈ L, x.length ≤ 4096) ∧ (Rq.timed op = false → ttl = 0))
    case first =>
      have hw := words_in hop0 tl
      have hb0 := HG3.out.lt
      cases ht : Rq.timed op
      · rw [ht] at hw
        have HW := Lib.hid (HPAR.out.trans hw); clear hw
        go_wp2_with fail
        go_meet
        case rel => exact ⟨0, tl, A3, tl.length, c3, rfl, hc3, rfl, HK.out, HG3.out, HR4.out, HB3.out, hgw, HW.out, by omega, HMEM.out, fun _ => rfl⟩
      · rw [ht, if_pos rfl] at hw
        cases tl with
        | nil =>
          have HP := Lib.hid (show Rq.parse (lst s) = ⟨0, 0, [], 4⟩ from HPAR.out.trans hw); clear hw
          go_wp2
          have hz := zero3 HG3.out HB3.out
          exact bodyPost_ret (results_req (p := 2) (u := 3) rfl _ _ w.heap.size _ rfl rfl hz.1) rfl (RetReq.bad HP.out hz.2)
        | cons t r =>
          have HW := Lib.hid (HPAR.out.trans hw); clear hw
          have htl := HMEM.out t (List.mem_cons_self ..)
          have hll : (t :: r).length = r.length + 1 := rfl
          rw [hll] at *
          obtain ⟨b, off, rfl, hbb, hcs⟩ := HR4.out.2 (by simp [strs])
          have hc0 : w9.cell? ⟨b, off, none⟩ = some (.string (str t)) := hcs 0 _ rfl
          obtain ⟨A5, c5, htail5, hr5, hc5⟩ := tail_any HR4.out hc3
          have HR5 := Lib.hid (show Rd w9 w2.heap.size 1 A5 r.length (strs (r.map str)) from hr5)
          clear hcs hr5 hll
          go_wp2_with fail
          refine (natural_any (str t) _).mono ?_
          rw [lst_str]
          rintro e w5 ⟨rfl, hw5⟩
          subst hw5
          cases hdec : Rq.dec t with
          | none =>
            have hw := HW.out
            try simp only at hw
            rw [hdec] at hw
            have HP := Lib.hid (show Rq.parse (lst s) = ⟨0, 0, [], 4⟩ from hw); clear hw
            unfold decRet
            go_wp2
            have hz := zero3 HG3.out HB3.out
            exact bodyPost_ret (results_req (p := 2) (u := 3) rfl _ _ w.heap.size _ rfl rfl hz.1) rfl (RetReq.bad HP.out hz.2)
          | some n =>
            have hw := HW.out
            try simp only at hw
            rw [hdec] at hw
            have HP := Lib.hid (show Rq.parse (lst s) = Rq.rest op n r from hw); clear hw
            unfold decRet
            have k1 : w9.cell? ⟨w2.heap.size, 1, none⟩ = some (.int .i64 0) := HK.out.cell 1
            have f1 : w9.frozen? ⟨w2.heap.size, 1, none⟩ = false := HK.out.frozen 1
            go_wp2_with fail
            refine wp_region_any (by kernel_rfl) ?_
            change wpAny _ _ _ _ 6 #[false, false, false, false, false, false] _ (World.drew _)
            refine wpAny_take (i := 0) (v := .int .i64 n) rfl (by kernel_rfl) (by kernel_rfl) (by kernel_rfl) (fun _ _ _ h => h) (Or.inl ⟨by rfl, fun w => ?_⟩) ?_
            · go_simp
            try simp only [Act.put, List.setIfInBounds_toArray, List.set_cons_zero, List.set_cons_succ]
            refine wpAny_take (i := 1) (v := .slice (some ⟨b, off, none⟩) (r.length + 1) c3) rfl (by kernel_rfl) (by kernel_rfl) (by kernel_rfl) (fun _ _ _ h => h) (Or.inl ⟨by rfl, fun w => ?_⟩) ?_
            · go_simp
            try simp only [Act.put, List.setIfInBounds_toArray, List.set_cons_zero, List.set_cons_succ]
            refine wpAny_take (i := 2) (v := .slice A5 r.length c5) rfl (by kernel_rfl) (by kernel_rfl) (by kernel_rfl) (fun _ _ _ h => h) (Or.inl ⟨by rfl, fun w => ?_⟩) ?_
            · go_simp
            try simp only [Act.put, List.setIfInBounds_toArray, List.set_cons_zero, List.set_cons_succ]
            refine wpAny_take (i := 3) (v := .pointer (some ⟨w2.heap.size, 1, none⟩)) rfl (by kernel_rfl) (by kernel_rfl) (by kernel_rfl) (fun _ _ _ h => h) (Or.inl ⟨by rfl, fun w => ?_⟩) ?_
            · go_simp
            try simp only [Act.put, List.setIfInBounds_toArray, List.set_cons_zero, List.set_cons_succ]
            refine wpAny_ready (rs := [4]) (by kernel_rfl) (by simp) ?_
            refine AllReady.cons rfl (fun K hK => ?_) AllReady.nil
            go_simp
            refine hK _ _ ?_
            clear hK K
            try simp only [Act.put, List.setIfInBounds_toArray, List.set_cons_zero, List.set_cons_succ]
            refine wpAny_ready (rs := [5]) (by kernel_rfl) (by simp) ?_
            refine AllReady.cons rfl (fun K hK => ?_) AllReady.nil
            go_simp
            refine hK _ _ ?_
            clear hK K
            try simp only [Act.put, List.setIfInBounds_toArray, List.set_cons_zero, List.set_cons_succ]
            refine wpAny_done (by kernel_rfl) ?_ _
            go_step
            go_wp2_with fail
            go_meet
            case rel => exact ⟨n, r, A5, r.length, c5, rfl, hc5, rfl, HK.out.drew.set_ 1 (.int .i64 n), HG3.out.drew.far (by simp; omega) _, HR5.out.drew.setCell (Nat.le_refl _) _, HB3.out.drew.setCell (by simp; omega) _, by simp; omega, HP.out, by simp at hlen; omega, fun x hx => HMEM.out x (List.mem_cons_of_mem _ hx), fun h => by rw [ht] at h; cases h⟩
    case rest =>
      obtain ⟨ttl, L, A, n, c, rfl, hnc, hL, hk5, hg, hr, hb, hgw, hpar, hn5, hm, htt0⟩ := hcut
      have HK := Lib.hid hk5; have HG := Lib.hid hg; have HR := Lib.hid hr; have HB := Lib.hid hb; have HP := Lib.hid hpar; have HL := Lib.hid hL; have HM := Lib.hid hm; have HT0 := Lib.hid htt0
      have hg25 : w.heap.size < w2.heap.size := hg2'
      clear hk5 hg hr hb hpar hL hm htt0 z0 z1 z2 y0 y1 y2 HPAR HMEM hlen HST
      go_wp2_with fail
      go_loopw [61] (fun vj wr => ∃ (j : Nat) (ns : List (List UInt8)) (A' : Option Addr) (c' : Nat), j ≤ n ∧ vj = .int .i64 j ∧ ns.length = j ∧ Bk wr w2.heap.size 32 #[.int .i64 op, .int .i64 ttl, .slice A' j c'] ∧
        wr.ownsRow (w2.heap.size + 1) 9 1 (.slice A' j c') j (strs (ns.map str)) ∧ Below w2.heap.size wc wr ∧ Rq.names L = (Rq.names (L.drop j)).map (ns ++ ·)) (fun vj _ => n - (intOf vj).toNat)
      case atStart => exact ⟨0, [], none, 0, by omega, rfl, rfl, HK.out, World.ownsRow_nil _ _ _ _, Below.refl _ _, by rw [List.drop_zero]; cases Rq.names L <;> simp⟩
      case round =>
        obtain ⟨j, ns, A', c', hj, rfl, hns, hk, ho, hbw, hnm⟩ := hrel
        have HK2 := Lib.hid hk; have HO := Lib.hid ho; have HB2 := Lib.hid hbw; have HN := Lib.hid hnm; have HNS := Lib.hid hns
        have hsz := hbw.size
        have hgr : w2.heap.size < wr.heap.size := by omega
        have HG2 := Lib.hid (HG.out.below hbw hg25)
        have HR2 := Lib.hid (HR.out.below hbw)
        have HBW := Lib.hid (HB.out.trans (hbw.mono (by omega)))
        have z0 : wr.cell? ⟨w.heap.size, 0, none⟩ = some (.int .i64 0) := HG2.out.cell 0
        have z1 : wr.cell? ⟨w.heap.size, 1, none⟩ = some (.int .i64 0) := HG2.out.cell 1
        have z2 : wr.cell? ⟨w.heap.size, 2, none⟩ = some (.slice none 0 0) := HG2.out.cell 2
        have y0 : wr.frozen? ⟨w.heap.size, 0, none⟩ = false := HG2.out.frozen 0
        have y1 : wr.frozen? ⟨w.heap.size, 1, none⟩ = false := HG2.out.frozen 1
        have y2 : wr.frozen? ⟨w.heap.size, 2, none⟩ = false := HG2.out.frozen 2
        clear hk ho hbw hnm hns
        by_cases hlt : j < n
        · obtain ⟨x, hx⟩ : ∃ x, L[j]? = some x := ⟨_, List.getElem?_eq_getElem (by have := HL.out; omega)⟩
          have hxm := HM.out x (List.mem_of_getElem? hx)
          obtain ⟨b, off, rfl, hbb, hcs⟩ := HR2.out.2 (by rw [strs_length, List.length_map, HL.out]; omega)
          have hc : wr.cell? ⟨b, off + j, none⟩ = some (.string (str x)) := hcs j _ (by rw [strs_at, List.getElem?_map, hx]; rfl)
          have hdj : L.drop j = x :: L.drop (j + 1) := by
            obtain ⟨h2, h3⟩ := List.getElem?_eq_some_iff.1 hx
            rw [List.drop_eq_getElem_cons h2, h3]
          have HDJ := Lib.hid hdj
          clear hcs hdj hx
          go_wp2_with fail
          refine (runquote_any (str x) (by rw [str_size]; omega) _).mono ?_
          rw [lst_str]
          rintro e w6 ⟨rfl, hb6⟩
          have hsz6 := hb6.size
          have HG6 := Lib.hid (HG2.out.below hb6 (by omega))
          have HK6 := Lib.hid (HK2.out.below hb6 hgr)
          have HO6 := Lib.hid (own_past HO.out hb6)
          have HB6 := Lib.hid (HBW.out.trans (hb6.mono (by omega)))
          have HC6 := Lib.hid (HB2.out.trans (hb6.mono (by omega)))
          unfold unqVal
          clear z0 z1 z2 y0 y1 y2 hb6
          cases hq : (Rq.unquote x).2
          · have hre := rest_bad (op := op) (n := ttl) (show Rq.names L = none by rw [HN.out, HDJ.out, names_bad _ hq]; rfl)
            have HE := Lib.hid (HP.out.trans hre)
            have z0 : w6.cell? ⟨w.heap.size, 0, none⟩ = some (.int .i64 0) := HG6.out.cell 0
            have z1 : w6.cell? ⟨w.heap.size, 1, none⟩ = some (.int .i64 0) := HG6.out.cell 1
            have z2 : w6.cell? ⟨w.heap.size, 2, none⟩ = some (.slice none 0 0) := HG6.out.cell 2
            have y0 : w6.frozen? ⟨w.heap.size, 0, none⟩ = false := HG6.out.frozen 0
            have y1 : w6.frozen? ⟨w.heap.size, 1, none⟩ = false := HG6.out.frozen 1
            have y2 : w6.frozen? ⟨w.heap.size, 2, none⟩ = false := HG6.out.frozen 2
            clear hre hq
            go_wp2
            have hz := zero3 HG6.out HB6.out
            exact bodyPost_ret (results_req (p := 2) (u := 3) rfl _ _ w.heap.size _ rfl rfl hz.1) rfl (RetReq.bad HE.out hz.2)
          · have hn2 : Rq.names L = (Rq.names (L.drop (j + 1))).map ((ns ++ [(Rq.unquote x).1]) ++ ·) := by rw [HN.out, HDJ.out, names_good _ hq, map_outs]
            have HN2 := Lib.hid hn2
            have k2 : w6.cell? ⟨w2.heap.size, 2, none⟩ = some (.slice A' j c') := HK6.out.cell 2
            clear hn2 hq
            generalize (Rq.unquote x).1 = y at *
            go_wp2_with (at_builtin; refine app_str (by rfl) _ _ rfl (base := w2.heap.size + 1) rfl (HO6.out.alloc _) rfl (rd_one_str w6 (str y)) (by omega) (by simp <;> omega) ?_)
            intro A8 c8 w8 ho8 hg8 hc8
            have HB8 := Lib.hid (own_below (own_low HO6.out (Nat.le_succ _)) HC6.out _ hg8 (by omega))
            have hwl : (ns ++ [y]).map str = ns.map str ++ [str y] := by simp
            have HO8 := Lib.hid (show w8.ownsRow (w2.heap.size + 1) 9 1 (.slice A8 (j + 1) c8) (j + 1) (strs ((ns ++ [y]).map str)) by rw [hwl]; exact ho8)
            have HK8 := Lib.hid ((HK6.out.alloc _).grown hg8 (by intro e; have := (HO6.out.lt _ e.symm).1; omega))
            have k28 : w8.cell? ⟨w2.heap.size, 2, none⟩ = some (.slice A' j c') := HK8.out.cell 2
            have f28 : w8.frozen? ⟨w2.heap.size, 2, none⟩ = false := HK8.out.frozen 2
            clear ho8 hg8 hc8 hwl
            go_wp2
            go_roundw
            case rel => exact ⟨j + 1, ns ++ [y], A8, c8, by omega, by go_num, by simp; exact HNS.out, HK8.out.set_ 2 _, ownsRow_setCell_below HO8.out (by simp) _, HB8.out.setCell (Nat.le_refl _) _, HN2.out⟩
            case measure => simp [intOf]; omega
        · have k0 : wr.cell? ⟨w2.heap.size, 0, none⟩ = some (.int .i64 op) := HK2.out.cell 0
          have k1 : wr.cell? ⟨w2.heap.size, 1, none⟩ = some (.int .i64 ttl) := HK2.out.cell 1
          have k2 : wr.cell? ⟨w2.heap.size, 2, none⟩ = some (.slice A' j c') := HK2.out.cell 2
          have hd : L.drop j = [] := List.drop_of_length_le (by have := HL.out; omega)
          have hnm : Rq.names L = some ns := by rw [HN.out, hd]; simp [Rq.names]
          have hrest := rest_good (op := op) (n := ttl) hnm
          have HRE := Lib.hid (HP.out.trans hrest)
          have hnl := HNS.out
          clear hd hnm hrest
          by_cases h7 : op = 7 ∧ ns.length ≠ 1
          · have hre := HRE.out
            rw [if_pos h7] at hre
            have HE := Lib.hid hre
            obtain ⟨h7a, h7b⟩ := h7
            have hj1 : ((j : Int) != 1) = true := by rw [bne_iff_ne]; omega
            subst h7a
            clear hre
            go_wp2
            have hz := zero3 HG2.out HBW.out
            exact bodyPost_ret (results_req (p := 2) (u := 3) rfl _ _ w.heap.size _ rfl rfl hz.1) rfl (RetReq.bad HE.out hz.2)
          · have hre := HRE.out
            rw [if_neg h7] at hre
            have HE := Lib.hid hre
            have hcond : (op = 7 ∧ ((j : Int) != 1) = false) ∨ (op == 7) = false := by
              by_cases h : op = 7
              · left
                refine ⟨h, ?_⟩
                have : ns.length = 1 := by
                  by_cases h1 : ns.length = 1
                  · exact h1
                  · exact absurd ⟨h, h1⟩ h7
                rw [← hnl, this]; rfl
              · right; simpa using h
            have HTM := Lib.hid (rtimed_any op)
            clear hre h7 hopn hopb hop0
            rcases hcond with ⟨rfl, h1⟩ | h1
            · go_wp2_with fail
              refine (HTM.out _).mono ?_
              rintro e w9 ⟨rfl, rfl⟩
              clear h1
              have ht7 : Rq.timed 7 = false := rfl
              rw [ht7]
              have ht0 := HT0.out ht7
              have he := HE.out
              rw [ht0] at he
              rw [show Rq.ttl 7 0 = true from rfl, if_pos rfl] at he
              have HE2 := Lib.hid he
              subst ht0
              clear he ht7
              go_wp2
              have h3 := fun o => set3_ret HG2.out HBW.out HO.out (by omega) HNS.out o 0
              refine bodyPost_ret (results_req (p := 2) (u := 3) rfl _ _ w.heap.size _ rfl rfl (h3 _).1) rfl ?_
              rw [HE2.out]
              exact (h3 _).2
            · go_wp2_with fail
              refine (HTM.out _).mono ?_
              rintro e w9 ⟨rfl, rfl⟩
              clear h1
              have hct : (Rq.timed op = false ∧ ttl = 0 ∧ Rq.ttl op ttl = true) ∨ (Rq.timed op = true ∧ ttl < 1 ∧ Rq.ttl op ttl = false) ∨ (Rq.timed op = true ∧ 1073741824 < ttl ∧ 1 ≤ ttl ∧ Rq.ttl op ttl = false) ∨ (Rq.timed op = true ∧ 1 ≤ ttl ∧ ttl ≤ 1073741824 ∧ Rq.ttl op ttl = true) := by
                have h0 := HT0.out
                unfold Rq.ttl
                cases htm : Rq.timed op
                · left; exact ⟨rfl, h0 htm, by simp [h0 htm]⟩
                · simp
                  omega
              have HE1 := HE
              rcases hct with ⟨h2, rfl, h4⟩ | ⟨h2, h3, h4⟩ | ⟨h2, h3, h3', h4⟩ | ⟨h2, h3, h3', h4⟩
              · rw [h2]
                have he := HE.out
                rw [h4, if_pos rfl] at he
                have HE2 := Lib.hid he
                clear he h2 h4
                go_wp2
                have h3 := fun o => set3_ret HG2.out HBW.out HO.out (by omega) HNS.out o 0
                refine bodyPost_ret (results_req (p := 2) (u := 3) rfl _ _ w.heap.size _ rfl rfl (h3 _).1) rfl ?_
                rw [HE2.out]
                exact (h3 _).2
              · rw [h2]
                have he := HE.out
                rw [h4] at he
                have HE2 := Lib.hid (show Rq.parse (lst s) = ⟨0, 0, [], 3⟩ from he)
                clear he h2 h4
                go_wp2
                have hz := zero3 HG2.out HBW.out
                exact bodyPost_ret (results_req (p := 2) (u := 3) rfl _ _ w.heap.size _ rfl rfl hz.1) rfl (RetReq.bad HE2.out hz.2)
              · rw [h2]
                have he := HE.out
                rw [h4] at he
                have HE2 := Lib.hid (show Rq.parse (lst s) = ⟨0, 0, [], 3⟩ from he)
                clear he h2 h4
                go_wp2
                have hz := zero3 HG2.out HBW.out
                exact bodyPost_ret (results_req (p := 2) (u := 3) rfl _ _ w.heap.size _ rfl rfl hz.1) rfl (RetReq.bad HE2.out hz.2)
              · rw [h2]
                have he := HE.out
                rw [h4, if_pos rfl] at he
                have HE2 := Lib.hid he
                clear he h2 h4
                go_wp2
                have h3 := fun o => set3_ret HG2.out HBW.out HO.out (by omega) HNS.out o ttl
                refine bodyPost_ret (results_req (p := 2) (u := 3) rfl _ _ w.heap.size _ rfl rfl (h3 _).1) rfl ?_
                rw [HE2.out]
                exact (h3 _).2
end Go.Proofs.Ytgidnkodgdoijaa
