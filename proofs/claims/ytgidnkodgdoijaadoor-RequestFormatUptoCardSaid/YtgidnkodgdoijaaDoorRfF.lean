/- The walk of the reference's Format, for all requests. -/
import Derived.Test.YtgidnkodgdoijaaDoorRqM
import Derived.Test.YtgidnkodgdoijaaDoorRfQ
import Derived.Test.YtgidnkodgdoijaaDoorRfD
namespace Go.Proofs.YtgidnkodgdoijaaDoor
open Go Go.RowKit Go.Proofs
set_option linter.unusedVariables false

/-- What Format returns. -/
def fmtAll (op ttl : Int) (ns : List (List UInt8)) : Value :=
  if 1 ≤ op ∧ op ≤ 7 then (if Rq.ttl op ttl = true then fmtVal op ttl ns else .tuple #[.string ⟨#[]⟩, .int .i64 3]) else .tuple #[.string ⟨#[]⟩, .int .i64 1]
theorem jn_snoc (x : List UInt8) : ∀ (l : List (List UInt8)), l ≠ [] → Rq.jn (l ++ [x]) = Rq.jn l ++ 32 :: x
  | [], h => absurd rfl h
  | [w], _ => rfl
  | w :: v :: r, _ => by
    have h := jn_snoc x (v :: r) (by simp)
    show w ++ 32 :: Rq.jn ((v :: r) ++ [x]) = (w ++ 32 :: Rq.jn (v :: r)) ++ 32 :: x
    rw [h]; simp
theorem jn_take (ws ns : List (List UInt8)) (k : Nat) (hw : ws ≠ []) : (Rq.jn (ws ++ (ns.take k).map Rq.quote)).length ≤ (Rq.jn (ws ++ ns.map Rq.quote)).length := by
  have h1 := jn_len (ws ++ (ns.take k).map Rq.quote) (by simp [hw])
  have h2 := jn_len (ws ++ ns.map Rq.quote) (by simp [hw])
  have h3 : (ns.map Rq.quote) = (ns.take k).map Rq.quote ++ (ns.drop k).map Rq.quote := by rw [← List.map_append, List.take_append_drop]
  rw [h3, ← List.append_assoc, List.map_append, List.sum_append] at h2
  rw [h3, ← List.append_assoc]
  omega
theorem jn_next {ns : List (List UInt8)} {k : Nat} {x : List UInt8} (h : ns[k]? = some x) (ws : List (List UInt8)) (hw : ws ≠ []) : Rq.jn (ws ++ (ns.take (k + 1)).map Rq.quote) = Rq.jn (ws ++ (ns.take k).map Rq.quote) ++ 32 :: Rq.quote x := by
  obtain ⟨h1, h2⟩ := List.getElem?_eq_some_iff.1 h
  rw [List.take_succ_eq_append_getElem h1, h2, List.map_append, ← List.append_assoc]
  exact jn_snoc _ _ (by simp [hw])
theorem ttl_cases (c n : Int) : (Rq.timed c = true ∧ n < 1 ∧ Rq.ttl c n = false) ∨ (Rq.timed c = true ∧ 1 ≤ n ∧ n ≤ 1073741824 ∧ Rq.ttl c n = true) ∨ (Rq.timed c = true ∧ 1073741824 < n ∧ Rq.ttl c n = false) ∨
      (Rq.timed c = false ∧ n = 0 ∧ Rq.ttl c n = true) ∨ (Rq.timed c = false ∧ n ≠ 0 ∧ Rq.ttl c n = false) := by
  unfold Rq.ttl
  cases Rq.timed c
  · simp; omega
  · simp; omega
set_option maxRecDepth 100000 in
set_option maxHeartbeats 16000000 in
theorem rformat_any (op ttl : Int) (A : Option Addr) (n c : Nat) (ns : List (List UInt8)) (w : World) (hr : Rd w w.heap.size 1 A n (strs (ns.map str)))
    (hN : n ≤ 1048576) (hm : ∀ x ∈ ns, x.length ≤ 1048576) (hL : 1 ≤ op ∧ op ≤ 7 → Rq.ttl op ttl = true → (Rq.ftext op ttl ns).length ≤ 140737488355328) :
    Calls Tryd.prog 13 #[.agg #[.int .i64 op, .int .i64 ttl, .slice A n c]] w fun e w' => e = .returned (fmtAll op ttl ns) ∧ Below w.heap.size w w' := by
  have hns : ns.length = n := by have := hr.1; rw [strs_length, List.length_map] at this; omega
  have hb1 : Below w.heap.size w (w.alloc (.cells #[.int .i64 op, .int .i64 ttl, .slice A n c] 35)) := (Below.refl _ _).alloc (Nat.le_refl _) _
  have HB1 := Lib.hid hb1
  have HR := Lib.hid hr; have HM := Lib.hid hm
  clear hb1 hr hm
  by_cases hop : 1 ≤ op ∧ op ≤ 7
  · have hwx : Rq.wdx op = Rq.wd op.toNat := by unfold Rq.wdx; rw [if_pos hop]
    have hwn : ∀ j : Fin 8, 0 < j.val → Rq.wd j.val ≠ [] := by decide
    have hwne := hwn ⟨op.toNat, by omega⟩ (by show 0 < op.toNat; omega)
    simp only at hwne
    have hse : (str (Rq.wd op.toNat)).toList.isEmpty = false := str_ne hwne
    have hWL : ∀ j : Fin 8, (Rq.wd j.val).length ≤ 8 := by decide
    have hwl := hWL ⟨op.toNat, by omega⟩
    simp only at hwl
    have HW := Lib.hid (wordx_any op)
    rw [hwx] at HW
    generalize hsw : str (Rq.wd op.toNat) = sw at HW hse
    have HSW := Lib.hid hsw
    have HT := Lib.hid (rtimed_any op)
    have hAll : fmtAll op ttl ns = if Rq.ttl op ttl = true then fmtVal op ttl ns else .tuple #[.string ⟨#[]⟩, .int .i64 3] := by unfold fmtAll; rw [if_pos hop]
    have HO := Lib.hid hop
    have hL' := hL hop
    have HWL := Lib.hid hwl
    clear hwx hwn hWL hL hsw hwne hwl hop
    rcases ttl_cases op ttl with ⟨g1, g2, g3⟩ | ⟨g1, g2, g4, g3⟩ | ⟨g1, g2, g3⟩ | ⟨g1, g2, g3⟩ | ⟨g1, g2, g3⟩
    all_goals
      rw [g3] at hAll hL'
      rw [g1] at HT
      have HG := Lib.hid g1
      have HA := Lib.hid hAll; have HLL := Lib.hid hL'
      clear hAll hL' g3 g1
    case inl =>
      go_enter Tryd.func13, Tryd.ntmps13
      go_wp2_with fail
      refine (HW.out _).mono ?_
      rintro e w9 ⟨rfl, rfl⟩
      go_wp2_with fail
      refine (HT.out _).mono ?_
      rintro e w9 ⟨rfl, rfl⟩
      go_wp2_with fail
      go_ret2
      have hA := HA.out
      rw [if_neg (by decide)] at hA
      exact ⟨by rw [hA]; rfl, HB1.out⟩
    case inr.inr.inl =>
      have g4 : ¬ ttl < 1 := by omega
      go_enter Tryd.func13, Tryd.ntmps13
      go_wp2_with fail
      refine (HW.out _).mono ?_
      rintro e w9 ⟨rfl, rfl⟩
      go_wp2_with fail
      refine (HT.out _).mono ?_
      rintro e w9 ⟨rfl, rfl⟩
      go_wp2_with fail
      go_ret2
      have hA := HA.out
      rw [if_neg (by decide)] at hA
      exact ⟨by rw [hA]; rfl, HB1.out⟩
    case inr.inr.inr.inr =>
      go_enter Tryd.func13, Tryd.ntmps13
      go_wp2_with fail
      refine (HW.out _).mono ?_
      rintro e w9 ⟨rfl, rfl⟩
      go_wp2_with fail
      refine (HT.out _).mono ?_
      rintro e w9 ⟨rfl, rfl⟩
      go_wp2_with fail
      refine (HT.out _).mono ?_
      rintro e w9 ⟨rfl, rfl⟩
      go_wp2_with fail
      go_ret2
      have hA := HA.out
      rw [if_neg (by decide)] at hA
      exact ⟨by rw [hA]; rfl, HB1.out⟩
    case inr.inl =>
      have hA2 : fmtAll op ttl ns = fmtVal op ttl ns := by rw [HA.out, if_pos rfl]
      have hLL := HLL.out rfl
      have HA2 := Lib.hid hA2; have HL2 := Lib.hid hLL
      clear HA HLL hA2 hLL
      have hop := HO.out
      have htm : op = 1 ∨ op = 3 := by have := HG.out; unfold Rq.timed at this; exact of_decide_eq_true this
      have hj7 : (op == 7) = false := by rw [beq_eq_false_iff_ne]; omega
      have hv : fmtVal op ttl ns = if 4096 < (Rq.ftext op ttl ns).length then .tuple #[.string ⟨#[]⟩, .int .i64 7] else .tuple #[.string (str (Rq.ftext op ttl ns)), .int .i64 0] := by unfold fmtVal; rw [if_neg (by omega)]
      have hfw : Rq.fwords op ttl ns = [Rq.wd op.toNat, Lib.itoa ttl] ++ ns.map Rq.quote := by unfold Rq.fwords; rw [HG.out]; rfl
      have hil : (Lib.itoa ttl).length ≤ 10 := by
        unfold Lib.itoa
        rw [if_neg (by omega)]
        exact dd_len 10 _ (by omega) (by omega)
      obtain ⟨ws, hws⟩ : ∃ ws, ws = [Rq.wd op.toNat, Lib.itoa ttl] := ⟨_, rfl⟩
      rw [← hws] at hfw
      have hwn : ws ≠ [] := by rw [hws]; simp
      have HV := Lib.hid hv; have HF := Lib.hid hfw; have HWS := Lib.hid hws; have HWN := Lib.hid hwn
      generalize hit : Lib.itoa ttl = it at *
      have HIT := Lib.hid hit
      have c1 : (⟨#[32]⟩ : ByteArray) ++ str it = str (32 :: it) := str_append [32] _
      have hcur : sw ++ str (32 :: it) = str (Rq.jn [Rq.wd op.toNat, it]) := by rw [← HSW.out]; exact str_append _ _
      obtain ⟨cu, hcu⟩ : ∃ cu, cu = str (Rq.jn [Rq.wd op.toNat, it]) := ⟨_, rfl⟩
      rw [← hcu] at hcur
      have HCU := Lib.hid hcu
      have s1 : (⟨#[32]⟩ : ByteArray).size = 1 := rfl
      have s2 : (str it).size = it.length := str_size _
      have s3 : (str (32 :: it)).size = it.length + 1 := str_size _
      have s4 : sw.size ≤ 8 := by rw [← HSW.out, str_size]; exact HWL.out
      clear hv hfw hws hwn htm hop hit hcu
      go_enter Tryd.func13, Tryd.ntmps13
      go_wp2_with fail
      refine (HW.out _).mono ?_
      rintro e w9 ⟨rfl, rfl⟩
      go_wp2_with fail
      refine (HT.out _).mono ?_
      rintro e w9 ⟨rfl, rfl⟩
      go_wp2_with fail
      refine (HT.out _).mono ?_
      rintro e w9 ⟨rfl, rfl⟩
      go_wp2_with fail
      refine (HW.out _).mono ?_
      rintro e w9 ⟨rfl, rfl⟩
      go_wp2_with fail
      refine (HT.out _).mono ?_
      rintro e w9 ⟨rfl, rfl⟩
      go_wp2_with fail
      refine (rdecimal_any ttl (by omega) (by omega) _).mono ?_
      rw [HIT.out]
      rintro e w9 ⟨rfl, rfl⟩
      go_wp2_with fail
      go_loopw [4, 62] (fun v4 vi wr => ∃ k : Nat, k ≤ n ∧ vi = .int .i64 k ∧ v4 = .string (str (Rq.jn (ws ++ (ns.take k).map Rq.quote))) ∧ Below w.heap.size w wr) (fun _ vi _ => n - (intOf vi).toNat)
      case atStart => exact ⟨0, by omega, rfl, by rw [HCU.out, ← HWS.out, List.take_zero, List.map_nil, List.append_nil], HB1.out⟩
      case round =>
        obtain ⟨k, hk, rfl, rfl, hb⟩ := hrel
        have HB := Lib.hid hb; have HR5 := Lib.hid (HR.out.below hb)
        have hjl := jn_take ws ns k HWN.out
        rw [← HF.out] at hjl
        have hl2 := HL2.out
        have hl3 : (Rq.jn (ws ++ (ns.take k).map Rq.quote)).length ≤ 140737488355328 := Nat.le_trans hjl hl2
        clear hb hjl hl2
        by_cases hlt : k < n
        · obtain ⟨x, hx⟩ : ∃ x, ns[k]? = some x := ⟨_, List.getElem?_eq_getElem (by omega)⟩
          have hxm := HM.out x (List.mem_of_getElem? hx)
          obtain ⟨b, off, rfl, hbb, hcs⟩ := HR5.out.2 (by rw [strs_length, List.length_map]; omega)
          have hc : wr.cell? ⟨b, off + k, none⟩ = some (.string (str x)) := hcs k _ (by rw [strs_at, List.getElem?_map, hx]; rfl)
          have hnx := jn_next hx ws HWN.out
          have HNX := Lib.hid hnx
          clear hcs hx hnx
          generalize Rq.jn (ws ++ (ns.take k).map Rq.quote) = cur at *
          have hql := (Rq.quote_len x).2.2
          go_wp2_with fail
          refine (rquote_any (str x) (by rw [str_size]; omega) _).mono ?_
          rw [lst_str]
          rintro e w6 ⟨rfl, hb6⟩
          have HB6 := Lib.hid (HB.out.trans (hb6.mono HB.out.size))
          clear hb6
          generalize Rq.quote x = q at *
          have d1 : (⟨#[32]⟩ : ByteArray) ++ str q = str (32 :: q) := str_append [32] _
          have d2 : str cur ++ str (32 :: q) = str (cur ++ 32 :: q) := str_append _ _
          have u1 : (⟨#[32]⟩ : ByteArray).size = 1 := rfl
          have u2 : (str q).size = q.length := str_size _
          have u3 : (str (32 :: q)).size = q.length + 1 := str_size _
          have u4 : (str cur).size = cur.length := str_size _
          go_wp2_with fail
          go_roundw
          case rel => exact ⟨k + 1, by omega, by go_num, by rw [HNX.out], HB6.out⟩
          case measure => simp [intOf]; omega
        · have hkn : k = n := by omega
          have htk : ns.take k = ns := by rw [hkn, ← hns, List.take_length]
          rw [htk, ← HF.out]
          have hsz : (str (Rq.jn (Rq.fwords op ttl ns))).size = (Rq.ftext op ttl ns).length := str_size _
          clear htk hkn hl3
          by_cases hbig : 4096 < (Rq.ftext op ttl ns).length
          · have hv := HV.out
            rw [if_pos hbig] at hv
            have HV2 := Lib.hid (HA2.out.trans hv); clear hv
            go_wp2_with fail
            go_ret2
            exact ⟨by rw [HV2.out]; rfl, HB.out⟩
          · have hv := HV.out
            rw [if_neg hbig] at hv
            have HV2 := Lib.hid (HA2.out.trans hv); clear hv
            go_wp2_with fail
            go_ret2
            exact ⟨by rw [HV2.out]; rfl, HB.out⟩
    case inr.inr.inr.inl =>
      subst g2
      have hA2 : fmtAll op 0 ns = fmtVal op 0 ns := by rw [HA.out, if_pos rfl]
      have hLL := HLL.out rfl
      have HA2 := Lib.hid hA2; have HL2 := Lib.hid hLL
      clear HA HLL hA2 hLL
      have hop := HO.out
      by_cases hbad : op = 7 ∧ ns.length ≠ 1
      · have hj7 : (op == 7) = true := by simpa using hbad.1
        have hn1 : ((n : Int) != 1) = true := by have := hbad.2; rw [bne_iff_ne]; omega
        have hv : fmtAll op 0 ns = .tuple #[.string ⟨#[]⟩, .int .i64 4] := by rw [HA2.out]; unfold fmtVal; rw [if_pos hbad]
        have HV := Lib.hid hv
        clear hv hbad hop
        go_enter Tryd.func13, Tryd.ntmps13
        go_wp2_with fail
        refine (HW.out _).mono ?_
        rintro e w9 ⟨rfl, rfl⟩
        go_wp2_with fail
        refine (HT.out _).mono ?_
        rintro e w9 ⟨rfl, rfl⟩
        go_wp2_with fail
        refine (HT.out _).mono ?_
        rintro e w9 ⟨rfl, rfl⟩
        go_wp2_with fail
        go_ret2
        exact ⟨by rw [HV.out]; rfl, HB1.out⟩
      have hv : fmtVal op 0 ns = if 4096 < (Rq.ftext op 0 ns).length then .tuple #[.string ⟨#[]⟩, .int .i64 7] else .tuple #[.string (str (Rq.ftext op 0 ns)), .int .i64 0] := by unfold fmtVal; rw [if_neg hbad]
      have hfw : Rq.fwords op 0 ns = [Rq.wd op.toNat] ++ ns.map Rq.quote := by unfold Rq.fwords; rw [HG.out]; rfl
      obtain ⟨ws, hws⟩ : ∃ ws, ws = [Rq.wd op.toNat] := ⟨_, rfl⟩
      rw [← hws] at hfw
      have hwn : ws ≠ [] := by rw [hws]; simp
      have HV := Lib.hid hv; have HF := Lib.hid hfw; have HWS := Lib.hid hws; have HWN := Lib.hid hwn
      have hcond : ((op == 7) = true ∧ ((n : Int) != 1) = false) ∨ (op == 7) = false := by
        by_cases h : op = 7
        · left
          refine ⟨by simpa using h, ?_⟩
          have : ns.length = 1 := by
            by_cases h1 : ns.length = 1
            · exact h1
            · exact absurd ⟨h, h1⟩ hbad
          rw [← hns, this]; rfl
        · right; simpa using h
      have s4 : sw.size ≤ 8 := by rw [← HSW.out, str_size]; exact HWL.out
      clear hv hfw hws hwn hop hbad
      rcases hcond with ⟨hj7, hn1⟩ | hj7
      all_goals
        go_enter Tryd.func13, Tryd.ntmps13
        go_wp2_with fail
        refine (HW.out _).mono ?_
        rintro e w9 ⟨rfl, rfl⟩
        go_wp2_with fail
        refine (HT.out _).mono ?_
        rintro e w9 ⟨rfl, rfl⟩
        go_wp2_with fail
        refine (HT.out _).mono ?_
        rintro e w9 ⟨rfl, rfl⟩
        go_wp2_with fail
        refine (HW.out _).mono ?_
        rintro e w9 ⟨rfl, rfl⟩
        go_wp2_with fail
        refine (HT.out _).mono ?_
        rintro e w9 ⟨rfl, rfl⟩
        go_wp2_with fail
        go_loopw [4, 62] (fun v4 vi wr => ∃ k : Nat, k ≤ n ∧ vi = .int .i64 k ∧ v4 = .string (str (Rq.jn (ws ++ (ns.take k).map Rq.quote))) ∧ Below w.heap.size w wr) (fun _ vi _ => n - (intOf vi).toNat)
        case atStart => exact ⟨0, by omega, rfl, by rw [← HSW.out, HWS.out, List.take_zero, List.map_nil, List.append_nil]; rfl, HB1.out⟩
        case round =>
          obtain ⟨k, hk, rfl, rfl, hb⟩ := hrel
          have HB := Lib.hid hb; have HR5 := Lib.hid (HR.out.below hb)
          have hjl := jn_take ws ns k HWN.out
          rw [← HF.out] at hjl
          have hl2 := HL2.out
          have hl3 : (Rq.jn (ws ++ (ns.take k).map Rq.quote)).length ≤ 140737488355328 := Nat.le_trans hjl hl2
          clear hb hjl hl2
          by_cases hlt : k < n
          · obtain ⟨x, hx⟩ : ∃ x, ns[k]? = some x := ⟨_, List.getElem?_eq_getElem (by omega)⟩
            have hxm := HM.out x (List.mem_of_getElem? hx)
            obtain ⟨b, off, rfl, hbb, hcs⟩ := HR5.out.2 (by rw [strs_length, List.length_map]; omega)
            have hc : wr.cell? ⟨b, off + k, none⟩ = some (.string (str x)) := hcs k _ (by rw [strs_at, List.getElem?_map, hx]; rfl)
            have hnx := jn_next hx ws HWN.out
            have HNX := Lib.hid hnx
            clear hcs hx hnx
            generalize Rq.jn (ws ++ (ns.take k).map Rq.quote) = cur at *
            have hql := (Rq.quote_len x).2.2
            go_wp2_with fail
            refine (rquote_any (str x) (by rw [str_size]; omega) _).mono ?_
            rw [lst_str]
            rintro e w6 ⟨rfl, hb6⟩
            have HB6 := Lib.hid (HB.out.trans (hb6.mono HB.out.size))
            clear hb6
            generalize Rq.quote x = q at *
            have d1 : (⟨#[32]⟩ : ByteArray) ++ str q = str (32 :: q) := str_append [32] _
            have d2 : str cur ++ str (32 :: q) = str (cur ++ 32 :: q) := str_append _ _
            have u1 : (⟨#[32]⟩ : ByteArray).size = 1 := rfl
            have u2 : (str q).size = q.length := str_size _
            have u3 : (str (32 :: q)).size = q.length + 1 := str_size _
            have u4 : (str cur).size = cur.length := str_size _
            go_wp2_with fail
            go_roundw
            case rel => exact ⟨k + 1, by omega, by go_num, by rw [HNX.out], HB6.out⟩
            case measure => simp [intOf]; omega
          · have hkn : k = n := by omega
            have htk : ns.take k = ns := by rw [hkn, ← hns, List.take_length]
            rw [htk, ← HF.out]
            have hsz : (str (Rq.jn (Rq.fwords op 0 ns))).size = (Rq.ftext op 0 ns).length := str_size _
            clear htk hkn hl3
            by_cases hbig : 4096 < (Rq.ftext op 0 ns).length
            · have hv := HV.out
              rw [if_pos hbig] at hv
              have HV2 := Lib.hid (HA2.out.trans hv); clear hv
              go_wp2_with fail
              go_ret2
              exact ⟨by rw [HV2.out]; rfl, HB.out⟩
            · have hv := HV.out
              rw [if_neg hbig] at hv
              have HV2 := Lib.hid (HA2.out.trans hv); clear hv
              go_wp2_with fail
              go_ret2
              exact ⟨by rw [HV2.out]; rfl, HB.out⟩
  · have hwx : Rq.wdx op = [] := by unfold Rq.wdx; rw [if_neg hop]
    have HW := Lib.hid (wordx_any op)
    rw [hwx, show str [] = ⟨#[]⟩ from rfl] at HW
    have HA := Lib.hid (show fmtAll op ttl ns = .tuple #[.string ⟨#[]⟩, .int .i64 1] by unfold fmtAll; rw [if_neg hop])
    clear hwx hop hL
    go_enter Tryd.func13, Tryd.ntmps13
    go_wp2_with fail
    refine (HW.out _).mono ?_
    rintro e w1 ⟨rfl, rfl⟩
    go_wp2
    go_ret2
    exact ⟨by rw [HA.out]; rfl, HB1.out⟩
end Go.Proofs.YtgidnkodgdoijaaDoor
