/- The walk of alabel.Decode. -/
import Derived.Test.YtoihjbiahccaaaaAlEnc
import Derived.Test.YtoihjbiahccaaaaPnUn
namespace Go.Proofs.Ytoihjbiahccaaaa
open Go Go.RowKit
set_option linter.unusedVariables false

def Al.pts (L : List UInt8) : List Int × Int :=
  if L.length = 0 then ([], 10) else if Pn.ascii L then (if 63 < L.length then ([], 11) else if Al.isX L then
    (if (Pn.decP (Al.low (L.drop 4))).2 = 0 then (if Al.ascii (Pn.decP (Al.low (L.drop 4))).1 then ([], 12) else if (Al.lab (Pn.decP (Al.low (L.drop 4))).1).2 = 0 ∧ (Al.lab (Pn.decP (Al.low (L.drop 4))).1).1 = Al.low L then ((Pn.decP (Al.low (L.drop 4))).1, 0) else ([], 12))
     else ([], (Pn.decP (Al.low (L.drop 4))).2)) else (Pn.nums L, 0)) else ([], 12)
theorem ascii_all {L : List UInt8} {k : Nat} {b : UInt8} (h : L[k]? = some b) (hb : ¬ b.toNat < 128) : Pn.ascii L = false := by
  have hk := (List.getElem?_eq_some_iff.1 h).1
  have := ascii_bad (n := L.length) h hk hb
  rwa [List.take_length] at this
theorem bne_str {M N : List UInt8} (h : M ≠ N) : str M ≠ str N := by
  intro e
  apply h
  have := congrArg lst e
  rwa [lst_str, lst_str] at this
set_option maxRecDepth 100000 in
set_option maxHeartbeats 16000000 in
theorem pts_any (s : ByteArray) (hs : s.size ≤ 1000000) (w : World) : Calls Try.prog 32 #[.string s] w (RetIE (Al.pts (lst s)) w) := by
  by_cases h0 : s.size = 0
  · have he : s.toList.isEmpty = true := by rw [size_empty]; simpa using h0
    have hp : Al.pts (lst s) = ([], 10) := by unfold Al.pts; rw [if_pos (by rw [lst_length]; exact h0)]
    have HP := Lib.hid hp; clear hp
    go_enter Try.func32, Try.ntmps32
    go_wp2
    go_ret2
    exact RetIE.bad HP.out (Below.refl _ _)
  have he : s.toList.isEmpty = false := by rw [size_empty]; simpa using h0
  have hp : Al.pts (lst s) = if Pn.ascii (lst s) then (if 63 < (lst s).length then ([], 11) else if Al.isX (lst s) then
    (if (Pn.decP (Al.low ((lst s).drop 4))).2 = 0 then (if Al.ascii (Pn.decP (Al.low ((lst s).drop 4))).1 then ([], 12) else if (Al.lab (Pn.decP (Al.low ((lst s).drop 4))).1).2 = 0 ∧ (Al.lab (Pn.decP (Al.low ((lst s).drop 4))).1).1 = Al.low (lst s) then ((Pn.decP (Al.low ((lst s).drop 4))).1, 0) else ([], 12))
     else ([], (Pn.decP (Al.low ((lst s).drop 4))).2)) else (Pn.nums (lst s), 0)) else ([], 12) := by
    conv => lhs; unfold Al.pts
    rw [if_neg (by rw [lst_length]; exact h0)]
  have HP := Lib.hid hp; clear hp
  obtain ⟨cc, w2, hcv, hbl2, hsz2, hcc, hcells, hfz⟩ := conv_bytes s w
  have HCE := Lib.hid hcells; have HB2 := Lib.hid hbl2
  clear hcells hbl2 hfz
  have hlow1 := fun w => lower_any s (by unfold maxLen; omega) w
  have HLW := Lib.hid hlow1; clear hlow1
  have his := fun w => is_any s (by unfold maxLen; omega) w
  have HIS := Lib.hid his; clear his
  go_enter Try.func32, Try.ntmps32
  go_wp2_with fail
  clear hcv
  go_loopw [4, 15] (fun vo vi wr => ∃ (j : Nat) (A : Option Addr) (c : Nat), j ≤ s.size ∧ vi = .int .i64 j ∧ vo = .slice A j c ∧ wr.ownsRow w2.heap.size 3 1 (.slice A j c) j (ints (Pn.nums ((lst s).take j))) ∧ Below w2.heap.size w2 wr ∧ Pn.ascii ((lst s).take j) = true) (fun _ vi _ => s.size - (intOf vi).toNat)
  case atStart => exact ⟨0, none, 0, by omega, rfl, rfl, World.ownsRow_nil _ _ _ _, Below.refl _ _, rfl⟩
  case round =>
    obtain ⟨j, A, c, hj, rfl, rfl, ho, hb, ha⟩ := hrel
    have HO := Lib.hid ho; have HB := Lib.hid hb; have HA := Lib.hid ha
    have hsw := hb.size
    clear ho hb ha
    by_cases hlt : j < s.size
    · have hbj := lst_at s j hlt
      generalize s[j] = b at *
      have hcell2 : wr.cell? ⟨w.heap.size, j, none⟩ = some (.int .u8 (b.toNat : Int)) := (HB.out.cell (p := ⟨w.heap.size, j, none⟩) hsz2).trans (HCE.out j b hbj)
      have HBJ := Lib.hid hbj
      clear hbj
      have hb256 := b.toNat_lt
      have hji : (j : Int) < (s.size : Int) := by omega
      by_cases hb128 : b.toNat < 128
      · have hb1 : (b.toNat : Int) ≤ 127 := by omega
        have hn := nums_succ HBJ.out
        have ha2 := ascii_succ HBJ.out
        rw [HA.out, decide_eq_true hb128] at ha2
        have HN := Lib.hid hn; have HA2 := Lib.hid (show Pn.ascii ((lst s).take (j + 1)) = true from ha2)
        have hbi0 : (0 : Int) ≤ (b.toNat : Int) := by omega
        clear hn ha2
        generalize (b.toNat : Int) = bi at *
        go_wp2_with (at_builtin; refine app_int (by rfl) _ _ rfl (base := w2.heap.size) rfl (HO.out.alloc _) rfl (rd_one_int (z := wr.heap.size) rfl bi) (by omega) (by simp <;> omega) ?_)
        intro A4 c4 w4 ho4 hg4 hc4
        have HP4 := Lib.hid (own_below HO.out HB.out _ hg4 hsw)
        have HO4 := Lib.hid (show w4.ownsRow w2.heap.size 3 1 (.slice A4 (j + 1) c4) (j + 1) (ints (Pn.nums ((lst s).take (j + 1)))) by rw [HN.out]; exact ho4)
        clear ho4 hg4 hc4
        go_wp2
        go_roundw
        case rel => exact ⟨j + 1, A4, c4, by omega, by go_num, rfl, HO4.out, HP4.out, HA2.out⟩
        case measure => simp [intOf]; omega
      · have hb1 : (127 : Int) < (b.toNat : Int) := by omega
        have hab := ascii_all HBJ.out hb128
        have hdd := HP.out
        rw [hab] at hdd
        have HDD := Lib.hid (show Al.pts (lst s) = ([], 12) from hdd)
        clear hab hdd
        generalize (b.toNat : Int) = bi at *
        go_wp2
        go_ret2
        exact RetIE.bad HDD.out (HB2.out.trans (HB.out.mono (by omega)))
    · have hjK : j = s.size := by omega
      subst hjK
      have htk : (lst s).take s.size = lst s := List.take_of_length_le (by rw [lst_length]; exact Nat.le_refl _)
      have ho := HO.out; have ha := HA.out; have hpp := HP.out
      rw [htk] at ho ha
      rw [ha, if_pos rfl, lst_length] at hpp
      have HPP := Lib.hid hpp
      have HBW := Lib.hid (HB2.out.trans (HB.out.mono (by omega)))
      have HOW := Lib.hid (own_low ho (show w.heap.size ≤ w2.heap.size by omega))
      clear ho ha hpp htk HO HA HP HB hlt hj HCE HB2
      by_cases h63 : 63 < s.size
      · have hpp := HPP.out
        rw [if_pos h63] at hpp
        have HDD := Lib.hid hpp; clear hpp
        have h63i : (63 : Int) < (s.size : Int) := by omega
        go_wp2
        go_ret2
        exact RetIE.bad HDD.out HBW.out
      · have hpp := HPP.out
        rw [if_neg h63] at hpp
        have HP6 := Lib.hid hpp; clear hpp
        have h63i : (s.size : Int) ≤ 63 := by omega
        have h63n : s.size ≤ 63 := by omega
        clear h63
        go_wp2_with fail
        refine (HIS.out _).mono ?_
        rintro e w3 ⟨rfl, hb3⟩
        have hsz3 := hb3.size
        replace HBW := Lib.hid (HBW.out.trans (hb3.mono (by omega)))
        replace HOW := Lib.hid (HOW.out.kept (only_below (only_refl wr none) hb3) (by cases (Value.slice A s.size c).ownBlock <;> simp))
        clear hb3
        have hpp := HP6.out
        clear HP6
        cases hix : Al.isX (lst s)
        · rw [hix] at hpp
          have HDD := Lib.hid (show Al.pts (lst s) = (Pn.nums (lst s), 0) from hpp); clear hpp hix
          have hnl : (Pn.nums (lst s)).length = s.size := by rw [nums_len, lst_length]
          have HNL := Lib.hid hnl; clear hnl
          go_wp2
          go_ret2
          rw [HDD.out]
          exact ⟨A, c, by rw [HNL.out]; rfl, by rw [HNL.out]; exact HOW.out, HBW.out⟩
        · rw [hix, if_pos rfl] at hpp
          have h4 : 4 ≤ s.size := by
            unfold Al.isX at hix
            rw [Bool.and_eq_true] at hix
            have := of_decide_eq_true hix.1
            rw [lst_length] at this; exact this
          have hex := extract_drop s 4 h4
          have hlw4 := fun w => lower_any (s.extract 4 s.size) (by rw [hex, str_size, List.length_drop, lst_length]; unfold maxLen; omega) w
          rw [hex, lst_str] at hlw4
          rw [← hex] at hlw4
          have hld : (Al.low ((lst s).drop 4)).length ≤ 1000000 := by rw [Al.low_len, List.length_drop, lst_length]; omega
          have HL4 := Lib.hid hlw4; have HDD := Lib.hid hpp
          have HQL := Lib.hid (show (Al.low ((lst s).drop 4)).length ≤ 2048 by rw [Al.low_len, List.length_drop, lst_length]; omega)
          clear hlw4 hpp hix hex HPP HOW
          have h4i : (4 : Int) ≤ (s.size : Int) := by omega
          generalize Al.low ((lst s).drop 4) = Q at *
          go_wp2_with fail
          refine (HL4.out _).mono ?_
          rintro e w4 ⟨rfl, hb4⟩
          have hsz4 := hb4.size
          replace HBW := Lib.hid (HBW.out.trans (hb4.mono (by omega)))
          clear hb4
          have hdc := decode_any (str Q) (by rw [str_size]; omega) w4
          rw [lst_str] at hdc
          have HDC := Lib.hid hdc; clear hdc
          obtain ⟨p, er, hd⟩ : ∃ p er, Pn.decP Q = (p, er) := ⟨_, _, rfl⟩
          have hdd := HDD.out
          have hdc := HDC.out
          have hall := Pn.decP_all Q (by have := HQL.out; omega)
          rw [hd] at hdd hdc hall
          have hpl : p.length ≤ 4096 := by
            rcases hall with ⟨_, h⟩ | ⟨h, _⟩
            · exact h
            · have h' : p = [] := h; rw [h']; simp
          have HDD2 := Lib.hid hdd; have HDC2 := Lib.hid hdc
          clear hdd hdc hall hd HDD HDC
          go_wp2_with fail
          refine HDC2.out.mono ?_
          rintro e w5 ⟨A5, c5, rfl, ho5, hb5⟩
          have hsz5 := hb5.size
          have HR5 := Lib.hid (Rd.of_own ho5)
          have HO5 := Lib.hid (own_low ho5 (show w.heap.size ≤ w4.heap.size by have := HBW.out.size; omega))
          replace HBW := Lib.hid (HBW.out.trans (hb5.mono (by have := HBW.out.size; omega)))
          clear ho5 hb5
          by_cases her : er = 0
          · subst her
            have hd1 := HDD2.out
            rw [if_pos rfl] at hd1
            have HD1 := Lib.hid hd1
            clear hd1 HDD2
            have hac := ascii_any A5 c5 p w5.heap.size w5 HR5.out (by omega)
            cases hasc : Al.ascii p
            · have hd2 := HD1.out
              rw [hasc, if_neg (by simp)] at hd2
              rw [hasc] at hac
              have HD2 := Lib.hid hd2; have HAC := Lib.hid hac
              clear hd2 hac hasc HD1
              go_wp2_with fail
              refine HAC.out.mono ?_
              rintro e w6 ⟨rfl, hw6⟩
              subst hw6
              have hlb := label_any A5 c5 p w5.heap.size w5 HR5.out (Nat.le_refl _) (by omega)
              obtain ⟨M, f, hm⟩ : ∃ M f, Al.lab p = (M, f) := ⟨_, _, rfl⟩
              have hd3 := HD2.out
              rw [hm] at hlb hd3
              have HLB := Lib.hid hlb; have HD3 := Lib.hid hd3
              clear hlb hd3 hm HD2
              go_wp2_with fail
              refine HLB.out.mono ?_
              rintro e w7 ⟨rfl, hb7⟩
              have hsz7 := hb7.size
              have HO7 := Lib.hid (HO5.out.kept (only_below (only_refl w5 none) hb7) (by cases (Value.slice A5 p.length c5).ownBlock <;> simp))
              replace HBW := Lib.hid (HBW.out.trans (hb7.mono (by have := HBW.out.size; omega)))
              clear hb7 HO5 HR5
              by_cases hf : f = 0
              · subst hf
                generalize hN : Al.low (lst s) = N at *
                have hd4 := HD3.out
                by_cases hMN : M = N
                · subst hMN
                  rw [if_pos ⟨rfl, rfl⟩] at hd4
                  have HD4 := Lib.hid hd4; clear hd4 HD3
                  go_wp2_with fail
                  refine (HLW.out _).mono ?_
                  rintro e w8 ⟨rfl, hb8⟩
                  have HO8 := Lib.hid (HO7.out.kept (only_below (only_refl w7 none) hb8) (by cases (Value.slice A5 p.length c5).ownBlock <;> simp))
                  have HB8 := Lib.hid (HBW.out.trans (hb8.mono (by have := HBW.out.size; omega)))
                  clear hb8
                  go_wp2
                  go_ret2
                  rw [HD4.out]
                  exact ⟨A5, c5, rfl, HO8.out, HB8.out⟩
                · rw [if_neg (fun h => hMN h.2)] at hd4
                  have HD4 := Lib.hid hd4; clear hd4 HD3
                  have hMNs := bne_str hMN
                  go_wp2_with fail
                  refine (HLW.out _).mono ?_
                  rintro e w8 ⟨rfl, hb8⟩
                  have HB8 := Lib.hid (HBW.out.trans (hb8.mono (by have := HBW.out.size; omega)))
                  clear hb8
                  have hbs : ((str M).toList == (str N).toList) = false := by
                    rw [beq_eq_false_iff_ne]
                    intro e
                    rw [ByteArray.toList_eq, ByteArray.toList_eq] at e
                    exact hMN e
                  go_wp2
                  go_ret2
                  exact RetIE.bad HD4.out HB8.out
              · have hd4 := HD3.out
                rw [if_neg (fun h => hf h.1)] at hd4
                have HD4 := Lib.hid hd4; clear hd4 HD3
                have hfb : (f != 0) = true := by simpa using hf
                clear hf
                go_wp2
                go_ret2
                exact RetIE.bad HD4.out HBW.out
            · have hd2 := HD1.out
              rw [hasc, if_pos rfl] at hd2
              rw [hasc] at hac
              have HD2 := Lib.hid hd2; have HAC := Lib.hid hac
              clear hd2 hac hasc HD1
              go_wp2_with fail
              refine HAC.out.mono ?_
              rintro e w6 ⟨rfl, hw6⟩
              subst hw6
              go_wp2
              go_ret2
              exact RetIE.bad HD2.out HBW.out
          · have hd1 := HDD2.out
            rw [if_neg her] at hd1
            have HD1 := Lib.hid hd1
            have heb : (er != 0) = true := by simpa using her
            clear hd1 HDD2 her
            go_wp2
            go_ret2
            exact RetIE.bad HD1.out HBW.out
end Go.Proofs.Ytoihjbiahccaaaa
