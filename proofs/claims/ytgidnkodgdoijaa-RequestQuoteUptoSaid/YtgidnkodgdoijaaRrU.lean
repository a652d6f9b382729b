/- The walk of the reference's Unquote. -/
import Derived.Test.YtgidnkodgdoijaaRrW
namespace Go.Proofs.Ytgidnkodgdoijaa
open Go Go.RowKit
set_option linter.unusedVariables false

theorem str_some (out : List UInt8) : (!(str out).toList.isEmpty) = decide (0 < out.length) := by
  rw [size_empty, str_size]
  cases out <;> simp
theorem conv_one (w : World) (b : UInt8) (x : Int) (hx : (b.toNat : Int) = x) : (convert 22 9 (.slice (some ⟨w.heap.size, 0, none⟩) 1 1)).run Try.prog (w.alloc (.cells #[.int .u8 x] 5)).drew = .ok (.string (str [b])) (w.alloc (.cells #[.int .u8 x] 5)).drew := by
  subst hx
  have h := own_built w 0 5 #[.int .u8 (b.toNat : Int)] 1 rfl (by decide) (Nat.zero_le _)
  exact conv_row (s := [b]) (World.ownsRow.drew (by simpa [bys] using h))
theorem extract_one (s : ByteArray) (k : Nat) (h : k < s.size) : s.extract k (k + 1) = str [s[k]] := by
  apply ByteArray.ext
  rw [ByteArray.data_extract]
  apply Array.toList_inj.1
  rw [Array.toList_extract]
  show (s.data.toList.drop k).take (k + 1 - k) = [s[k]]
  rw [show k + 1 - k = 1 by omega, show s.data.toList.drop k = s[k] :: (lst s).drop (k + 1) from lst_drop s k h]; rfl
set_option maxRecDepth 100000 in
set_option maxHeartbeats 8000000 in
theorem runquote_any (s : ByteArray) (hs : s.size ≤ 140737488355328) (w : World) : Calls Try.prog 9 #[.string s] w fun e w' => e = .returned (unqVal (lst s)) ∧ Below w.heap.size w w' := by
  by_cases hq : s = ⟨#[34, 34]⟩
  · subst hq
    go_enter Try.func9, Try.ntmps9
    go_wp2
    go_ret2
    exact ⟨rfl, Below.refl _ _⟩
  have hq2 : lst s ≠ [34, 34] := by
    intro e
    apply hq
    rw [← str_lst s, e]; rfl
  have hqb : (s.toList == [34, 34]) = false := by rw [toList_lst, beq_eq_false_iff_ne]; exact hq2
  have HQ := Lib.hid hq2
  clear hq hq2
  go_enter Try.func9, Try.ntmps9
  go_wp2_with fail
  go_loopw [4, 5] (fun vo vi wr => ∃ (k : Nat) (out : List UInt8), k ≤ s.size ∧ vi = .int .i64 k ∧ vo = .string (str out) ∧ Below w.heap.size w wr ∧
      out.length ≤ k ∧ Rq.unq (lst s) = (Rq.unq ((lst s).drop k)).map (out ++ ·)) (fun _ vi _ => s.size - (intOf vi).toNat)
  case atStart => exact ⟨0, [], by omega, rfl, rfl, Below.refl _ _, by simp, by rw [List.drop_zero]; cases Rq.unq (lst s) <;> simp⟩
  case round =>
    obtain ⟨k, out, hk, rfl, rfl, hb, hlen, hun⟩ := hrel
    have HB := Lib.hid hb; have HU := Lib.hid hun
    have hsw := hb.size
    have hso : (str out).size = out.length := str_size out
    clear hb hun
    by_cases hlt : k < s.size
    · have hdr := lst_drop s k hlt
      have HDR := Lib.hid hdr; clear hdr
      have hone := extract_one s k hlt
      go_wp2_with fail
      refine (rplain_any s[k] _).mono ?_
      rintro e w1 ⟨rfl, rfl⟩
      cases hp : Rq.pl s[k]
      · by_cases h37 : s[k] = 37
        · have hi37 : (s[k].toNat : Int) = 37 := by rw [h37]; rfl
          by_cases hk2 : k + 2 < s.size
          · have hd1 := lst_drop s (k + 1) (by omega)
            have hd2 := lst_drop s (k + 2) (by omega)
            have HD1 := Lib.hid hd1; have HD2 := Lib.hid hd2; clear hd1 hd2
            by_cases hx0 : 0 ≤ Rq.hx s[k + 1]
            · by_cases hy0 : 0 ≤ Rq.hx s[k + 2]
              · have hun2 : Rq.unq (lst s) = (Rq.unq ((lst s).drop (k + 3))).map ((out ++ [Rq.two s[k + 1] s[k + 2]]) ++ ·) := by
                  rw [HU.out, HDR.out, h37, HD1.out, HD2.out, Rq.unq_two _ _ _ hx0 hy0, map_out]
                have HU2 := Lib.hid hun2
                have htv := two_val s[k + 1] s[k + 2] hx0 hy0
                have ha1 := (Rq.hx_bd s[k + 1]).2; have hb1 := (Rq.hx_bd s[k + 2]).2
                have HX := Lib.hid (rhex_any s[k + 1]); have HY := Lib.hid (rhex_any s[k + 2])
                generalize hxx : Rq.hx s[k + 1] = a at *
                generalize hyy : Rq.hx s[k + 2] = b at *
                clear hun2 hp h37 hxx hyy
                go_wp2_with fail
                refine (HX.out _).mono ?_
                rintro e w2 ⟨rfl, rfl⟩
                go_wp2_with fail
                refine (HY.out _).mono ?_
                rintro e w3 ⟨rfl, rfl⟩
                go_wp2_with fail
                obtain ⟨_, t4⟩ := or_hex a b hx0 ha1 hy0 hb1
                have t1 : IntKind.i64.wrap ((k : Int) + 1) = (k : Int) + 1 := IntWalk.i64_in _ (by omega)
                have t2 : IntKind.i64.wrap ((k : Int) + 2) = (k : Int) + 2 := IntWalk.i64_in _ (by omega)
                have t5 : IntKind.i64.wrap (16 * a) = a * 16 := (IntWalk.i64_in _ (by omega)).trans (by omega)
                have t6 : IntKind.i64.wrap (a * 16 + b) = a * 16 + b := IntWalk.i64_in _ (by omega)
                have n2 : ((k : Int) + 2).toNat = k + 2 := by omega
                have hcv := conv_one w3 (Rq.two s[k + 1] s[k + 2]) (a * 16 + b) htv
                have hcat : str out ++ str [Rq.two s[k + 1] s[k + 2]] = str (out ++ [Rq.two s[k + 1] s[k + 2]]) := str_append _ _
                have hc1 : (str [Rq.two s[k + 1] s[k + 2]]).size = 1 := rfl
                have hc2 : out.length + 1 ≤ 9223372036854775807 := by omega
                refine wp_region_any (by kernel_rfl) ?_
                change wpAny _ _ _ _ 18 #[false, false, false, false, false, false, false, false, false, false, false, false, false, false, false, false, false, false] _ (World.drew _)
                refine wpAny_take (i := 0) (v := .string (str out)) rfl (by kernel_rfl) (by kernel_rfl) (by kernel_rfl) (fun _ _ _ h => h) (Or.inl ⟨by rfl, fun w => ?_⟩) ?_
                · go_simp
                try simp only [Act.put, List.setIfInBounds_toArray, List.set_cons_zero, List.set_cons_succ]
                refine wpAny_take (i := 1) (v := .string s) rfl (by kernel_rfl) (by kernel_rfl) (by kernel_rfl) (fun _ _ _ h => h) (Or.inl ⟨by rfl, fun w => ?_⟩) ?_
                · go_simp
                try simp only [Act.put, List.setIfInBounds_toArray, List.set_cons_zero, List.set_cons_succ]
                refine wpAny_take (i := 2) (v := .int .i64 k) rfl (by kernel_rfl) (by kernel_rfl) (by kernel_rfl) (fun _ _ _ h => h) (Or.inl ⟨by rfl, fun w => ?_⟩) ?_
                · go_simp
                try simp only [Act.put, List.setIfInBounds_toArray, List.set_cons_zero, List.set_cons_succ]
                refine wpAny_take (i := 3) (v := .int .i64 (k + 1)) rfl (by kernel_rfl) (by kernel_rfl) (by kernel_rfl) (fun _ _ _ h => h) (Or.inl ⟨by rfl, fun w => ?_⟩) ?_
                · go_simp
                try simp only [Act.put, List.setIfInBounds_toArray, List.set_cons_zero, List.set_cons_succ]
                refine wpAny_take (i := 4) (v := .int .u8 (s[k + 1].toNat : Int)) rfl (by kernel_rfl) (by kernel_rfl) (by kernel_rfl) (fun _ _ _ h => h) (Or.inl ⟨by rfl, fun w => ?_⟩) ?_
                · go_simp
                try simp only [Act.put, List.setIfInBounds_toArray, List.set_cons_zero, List.set_cons_succ]
                refine wpAny_take (i := 7) (v := .string s) rfl (by kernel_rfl) (by kernel_rfl) (by kernel_rfl) (fun _ _ _ h => h) (Or.inl ⟨by rfl, fun w => ?_⟩) ?_
                · go_simp
                try simp only [Act.put, List.setIfInBounds_toArray, List.set_cons_zero, List.set_cons_succ]
                refine wpAny_take (i := 8) (v := .int .i64 k) rfl (by kernel_rfl) (by kernel_rfl) (by kernel_rfl) (fun _ _ _ h => h) (Or.inl ⟨by rfl, fun w => ?_⟩) ?_
                · go_simp
                try simp only [Act.put, List.setIfInBounds_toArray, List.set_cons_zero, List.set_cons_succ]
                refine wpAny_take (i := 9) (v := .int .i64 (k + 2)) rfl (by kernel_rfl) (by kernel_rfl) (by kernel_rfl) (fun _ _ _ h => h) (Or.inl ⟨by rfl, fun w => ?_⟩) ?_
                · go_simp
                try simp only [Act.put, List.setIfInBounds_toArray, List.set_cons_zero, List.set_cons_succ]
                refine wpAny_take (i := 10) (v := .int .u8 (s[k + 2].toNat : Int)) rfl (by kernel_rfl) (by kernel_rfl) (by kernel_rfl) (fun _ _ _ h => h) (Or.inl ⟨by rfl, fun w => ?_⟩) ?_
                · first | (go_simp; done) | (go_simp; simp only [n2])
                try simp only [Act.put, List.setIfInBounds_toArray, List.set_cons_zero, List.set_cons_succ]
                refine wpAny_ready (rs := [5]) (by kernel_rfl) (by simp) ?_
                refine AllReady.cons rfl (fun K hK => ?_) AllReady.nil
                go_simp
                refine (HX.out _).mono ?_
                rintro e w9 ⟨rfl, rfl⟩
                refine hK _ _ ?_
                clear hK K
                try simp only [Act.put, List.setIfInBounds_toArray, List.set_cons_zero, List.set_cons_succ]
                refine wpAny_take (i := 6) (v := .int .i64 (a * 16)) rfl (by kernel_rfl) (by kernel_rfl) (by kernel_rfl) (fun _ _ _ h => h) (Or.inl ⟨by rfl, fun w => ?_⟩) ?_
                · go_simp
                try simp only [Act.put, List.setIfInBounds_toArray, List.set_cons_zero, List.set_cons_succ]
                refine wpAny_ready (rs := [11]) (by kernel_rfl) (by simp) ?_
                refine AllReady.cons rfl (fun K hK => ?_) AllReady.nil
                go_simp
                refine (HY.out _).mono ?_
                rintro e w9 ⟨rfl, rfl⟩
                refine hK _ _ ?_
                clear hK K
                try simp only [Act.put, List.setIfInBounds_toArray, List.set_cons_zero, List.set_cons_succ]
                refine wpAny_take (i := 12) (v := .int .i64 (a * 16 + b)) rfl (by kernel_rfl) (by kernel_rfl) (by kernel_rfl) (fun _ _ _ h => h) (Or.inl ⟨by rfl, fun w => ?_⟩) ?_
                · go_simp
                try simp only [Act.put, List.setIfInBounds_toArray, List.set_cons_zero, List.set_cons_succ]
                refine wpAny_take (i := 13) (v := .int .u8 (a * 16 + b)) rfl (by kernel_rfl) (by kernel_rfl) (by kernel_rfl) (fun _ _ _ h => h) (Or.inl ⟨by rfl, fun w => ?_⟩) ?_
                · go_simp
                try simp only [Act.put, List.setIfInBounds_toArray, List.set_cons_zero, List.set_cons_succ]
                refine wpAny_ready (rs := [14]) (by kernel_rfl) (by simp) ?_
                refine AllReady.cons rfl (fun K hK => ?_) AllReady.nil
                go_simp
                refine hK _ _ ?_
                clear hK K
                try simp only [Act.put, List.setIfInBounds_toArray, List.set_cons_zero, List.set_cons_succ]
                refine wpAny_ready (rs := [15]) (by kernel_rfl) (by simp) ?_
                refine AllReady.cons rfl (fun K hK => ?_) AllReady.nil
                go_simp
                refine hK _ _ ?_
                clear hK K
                try simp only [Act.put, List.setIfInBounds_toArray, List.set_cons_zero, List.set_cons_succ]
                refine wpAny_take (i := 16) (v := .string (str (out ++ [Rq.two s[k + 1] s[k + 2]]))) rfl (by kernel_rfl) (by kernel_rfl) (by kernel_rfl) (fun _ _ _ h => h) (Or.inl ⟨by rfl, fun w => ?_⟩) ?_
                · go_simp
                try simp only [Act.put, List.setIfInBounds_toArray, List.set_cons_zero, List.set_cons_succ]
                refine wpAny_ready (rs := [17]) (by kernel_rfl) (by simp) ?_
                refine AllReady.cons rfl (fun K hK => ?_) AllReady.nil
                go_simp
                refine hK _ _ ?_
                clear hK K
                try simp only [Act.put, List.setIfInBounds_toArray, List.set_cons_zero, List.set_cons_succ]
                refine wpAny_done (by kernel_rfl) ?_ _
                go_step
                go_wp2
                go_roundw
                case rel => exact ⟨k + 3, out ++ [Rq.two s[k + 1] s[k + 2]], by omega, by go_num, rfl, HB.out.drew.alloc (by simp; omega) _, by simp; omega, HU2.out⟩
                case measure => simp [intOf]; omega
              · have hbad : Rq.unq (lst s) = none := by
                  rw [HU.out, HDR.out, h37, HD1.out, HD2.out, Rq.unq_hex _ _ _ (fun e => hy0 e.2)]; rfl
                have HF := Lib.hid (unq_fail HQ.out hbad)
                have HX := Lib.hid (rhex_any s[k + 1]); have HY := Lib.hid (rhex_any s[k + 2])
                generalize hxx : Rq.hx s[k + 1] = a at *
                generalize hyy : Rq.hx s[k + 2] = b at *
                clear hbad hp h37 hxx hyy
                go_wp2_with fail
                refine (HX.out _).mono ?_
                rintro e w2 ⟨rfl, rfl⟩
                go_wp2_with fail
                refine (HY.out _).mono ?_
                rintro e w3 ⟨rfl, rfl⟩
                go_wp2
                go_ret2
                exact ⟨by rw [HF.out]; rfl, HB.out⟩
            · have hbad : Rq.unq (lst s) = none := by
                rw [HU.out, HDR.out, h37, HD1.out, HD2.out, Rq.unq_hex _ _ _ (fun e => hx0 e.1)]; rfl
              have HF := Lib.hid (unq_fail HQ.out hbad)
              have HX := Lib.hid (rhex_any s[k + 1])
              generalize hxx : Rq.hx s[k + 1] = a at *
              clear hbad hp h37 hxx
              go_wp2_with fail
              refine (HX.out _).mono ?_
              rintro e w2 ⟨rfl, rfl⟩
              go_wp2
              go_ret2
              exact ⟨by rw [HF.out]; rfl, HB.out⟩
          · have hbad : Rq.unq (lst s) = none := by
              rw [HU.out, HDR.out, h37, Rq.unq_short _ (by rw [List.length_drop, lst_length]; omega)]; rfl
            have HF := Lib.hid (unq_fail HQ.out hbad)
            clear hbad hp h37
            go_wp2
            go_ret2
            exact ⟨by rw [HF.out]; rfl, HB.out⟩
        · have hbad : Rq.unq (lst s) = none := by
            rw [HU.out, HDR.out, Rq.unq_bad _ hp h37]; rfl
          have HF := Lib.hid (unq_fail HQ.out hbad)
          have hi37 : ((s[k].toNat : Int) != 37) = true := by
            rw [bne_iff_ne]
            intro e
            apply h37
            apply UInt8.toNat_inj.1
            show (s[k]).toNat = 37
            omega
          clear hbad hp h37
          go_wp2
          go_ret2
          exact ⟨by rw [HF.out]; rfl, HB.out⟩
      · have hun2 : Rq.unq (lst s) = (Rq.unq ((lst s).drop (k + 1))).map ((out ++ [s[k]]) ++ ·) := by
          rw [HU.out, HDR.out, Rq.unq_pl _ hp, map_out]
        have HU2 := Lib.hid hun2; clear hun2 hp
        have hcat : str out ++ str [s[k]] = str (out ++ [s[k]]) := str_append _ _
        have hc1 : (str [s[k]]).size = 1 := rfl
        have hc2 : out.length + 1 ≤ 9223372036854775807 := by omega
        go_wp2
        go_roundw
        case rel => exact ⟨k + 1, out ++ [s[k]], by omega, by go_num, rfl, HB.out, by simp; omega, HU2.out⟩
        case measure => simp [intOf]; omega
    · have hd : (lst s).drop k = [] := List.drop_of_length_le (by rw [lst_length]; omega)
      have hun2 : Rq.unq (lst s) = some out := by rw [HU.out, hd, Rq.unq_nil]; simp
      have HF := Lib.hid (unq_good HQ.out hun2)
      have HS := Lib.hid (str_some out)
      clear hd hun2
      go_wp2
      go_ret2
      exact ⟨by rw [HF.out, ← HS.out]; rfl, HB.out⟩
end Go.Proofs.Ytgidnkodgdoijaa
