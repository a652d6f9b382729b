/- The walk of the law PunyASCII. -/
import Derived.Test.YtoihjbiahccaaaaPtN
import Derived.Test.YtoihjbiahccaaaaPnUn
import Derived.Deep.CutBlock
namespace Go.Proofs.Ytoihjbiahccaaaa
open Go Go.RowKit
set_option linter.unusedVariables false

theorem Pn.enc_all (l : List Int) : (Pn.enc l).length = (Pn.front l).length ↔ (Pn.basics l).length = l.length := by
  have h0 : (Pn.enc l).length = (Pn.front l).length + (Pn.tl l 128 0 (Pn.st0 l)).length := by unfold Pn.enc; rw [List.length_append, List.length_map]
  constructor
  · intro h
    have ht : Pn.tl l 128 0 (Pn.st0 l) = [] := List.length_eq_zero_iff.1 (by omega)
    cases hn : Pn.next l 128 0 with
    | none => rw [← Pn.PL_start, Pn.PL_end (Pn.next_none hn)]
    | some p =>
      have := Pn.tl_step (Pn.next_some hn) (Pn.st0 l)
      rw [ht] at this
      have hne : Pn.dig (Pn.num l (Pn.st0 l) p) (Pn.st0 l).b ≠ [] := Pn.digs_ne _ _ _ _
      exact absurd (List.append_eq_nil_iff.1 this.symm).1 hne
  · intro h
    rw [← Pn.PL_start] at h
    rw [h0, Pn.tl_done (Pn.PL_len_eq h)]; rfl
theorem Pn.enc_low (l : List Int) (k : Nat) (h1 : (Pn.front l).length ≤ k) {b : UInt8} (h2 : (Pn.enc l)[k]? = some b) : (97 ≤ b.toNat ∧ b.toNat ≤ 122) ∨ (48 ≤ b.toNat ∧ b.toNat ≤ 57) := by
  unfold Pn.enc at h2
  rw [List.getElem?_append_right h1, List.getElem?_map] at h2
  obtain ⟨d, h3, rfl⟩ := Option.map_eq_some_iff.1 h2
  obtain ⟨h4, h5⟩ := Pn.tl_bd l l.length 128 0 (Pn.st0 l) (Pn.left_le _ _ _) (Pn.inv_start l) d (List.mem_of_getElem? h3)
  exact Pn.dgt_low d h4 h5
theorem Pn.enc_front (l : List Int) : (Pn.enc l).take (Pn.front l).length = Pn.front l ∧ (Pn.front l).length ≤ (Pn.enc l).length := by
  unfold Pn.enc
  exact ⟨List.take_left, by simp⟩
set_option maxRecDepth 100000 in
set_option maxHeartbeats 8000000 in
theorem walk_PunyASCII (a0 : Option Addr) (c0 : Nat) (x0 : List Int) (w : World) (r0 : Rd w w.heap.size 1 a0 x0.length (ints x0)) (m0 : x0.length ≤ maxLen) (f0 : ∀ n ∈ x0, (Lit.int .i64 n).wf = true) :
    Calls Try.prog 8 #[.slice a0 x0.length c0] w fun e w' => e = .returned (.bool true) ∧ Below w.heap.size w w' := by
  have hp1 := Pn.lp_len x0; have hp2 := Pn.lp_scalar x0
  have henc := encP_good (l := Pn.lp x0) (by omega) hp2
  have hes := Pn.enc_len (Pn.lp x0) (fun c hc => (Pn.scalar_bd (hp2 c hc)).2) (by omega)
  have hpt := points_any a0 c0 x0 w r0 m0
  have HPT := Lib.hid hpt
  have HE := Lib.hid henc
  have HSC := Lib.hid hp2
  clear r0 m0 f0 hp2 henc hpt
  generalize Pn.lp x0 = p at *
  go_enter Try.func8, Try.ntmps8
  go_wp2_with fail
  refine HPT.out.mono ?_
  rintro e w1 ⟨A1, c1, rfl, ho1, hb1⟩
  have HR1 := Lib.hid (Rd.of_own ho1); have HB1 := Lib.hid hb1
  have hsz1 := hb1.size
  clear ho1 hb1
  go_wp2_with fail
  have hct := encode_any A1 c1 p w1.heap.size w1 HR1.out (Nat.le_refl _) (by omega)
  rw [HE.out] at hct
  refine hct.mono ?_
  clear hct
  rintro e w2 ⟨rfl, hb2⟩
  have HR2 := Lib.hid (HR1.out.below hb2)
  have hsz12 := hb2.size
  have HB2 := Lib.hid (HB1.out.trans (hb2.mono hsz1)); have hsz2 := HB2.out.size
  clear hb2
  go_wp2_with fail
  go_loopw [6, 20] (fun vo vi wr => ∃ k : Nat, k ≤ p.length ∧ vi = .int .i64 k ∧ EnOne w2 p k vo wr) (fun _ vi _ => p.length - (intOf vi).toNat)
  case atStart => exact ⟨0, by omega, rfl, 0, none, 0, rfl, by omega, rfl, World.ownsRow_nil _ _ _ _, Below.refl _ _, by simp⟩
  case round =>
    obtain ⟨k, hk, rfl, m, A', c', hm, hmk, rfl, ho, hbl, hsc⟩ := hrel
    have HM := Lib.hid hm; have HO := Lib.hid ho; have HB := Lib.hid hbl; have HS := Lib.hid hsc
    have hswr := hbl.size
    clear hm ho hbl hsc
    by_cases hlt : k < p.length
    · obtain ⟨b, off, cc, rfl, hb, hat, hcell⟩ := ints_cell (HR2.out.below (HB.out.mono hsz12)) hlt
      have HAT := Lib.hid hat
      have hsc' := HSC.out cc (List.mem_of_getElem? hat)
      have hc0 := (Pn.scalar_bd hsc').1
      have HSC' := Lib.hid hsc'
      clear hat hsc'
      by_cases hc : cc < 128
      · have hbn := Pn.byte_num cc hc0 (by omega)
        have HBN := Lib.hid hbn; clear hbn
        have hbw : IntKind.u8.wrap cc = cc := by rw [IntKind.wrap_u8]; omega
        go_wp2_with (at_builtin; refine app_byte (by rfl) _ _ rfl (base := w2.heap.size) rfl (HO.out.alloc _) rfl (rd_one_u8x (z := wr.heap.size) rfl HBN.out) (by omega) (by simp <;> omega) ?_)
        intro A4 c4 w4 ho4 hg4 hc4
        have HP := Lib.hid (own_below HO.out HB.out _ hg4 hswr)
        have hbs := bas_succ HAT.out
        rw [if_pos hc] at hbs
        have hmp : (Pn.basics (p.take (k + 1))).map Pn.byte = (Pn.basics (p.take k)).map Pn.byte ++ [Pn.byte cc] := by rw [hbs]; simp
        have HMP := Lib.hid hmp
        have hml : ((Pn.basics (p.take (k + 1))).map Pn.byte).length = m + 1 := by rw [hmp, List.length_append, HM.out]; rfl
        have hs2 : ∀ x ∈ p.take (k + 1), Pn.scalar x = true := fun x hx => HSC.out x (List.mem_of_mem_take hx)
        have HEO := Lib.hid (show EnOne w2 p (k + 1) (.slice A4 (m + 1) c4) w4 from ⟨m + 1, A4, c4, hml, by omega, rfl, by rw [HMP.out]; exact ho4, HP.out, hs2⟩)
        clear ho4 hg4 hc4 hbs hmp hml hs2
        go_wp2
        go_roundw
        case rel => exact ⟨k + 1, by omega, by go_num, HEO.out⟩
        case measure => simp [intOf]; omega
      · go_wp2
        go_roundw
        case rel => exact ⟨k + 1, by omega, by go_num, EnOne.skip ⟨m, A', c', HM.out, hmk, rfl, HO.out, HB.out, HS.out⟩ HAT.out HSC'.out (by omega)⟩
        case measure => simp [intOf]; omega
    · have htk : p.take k = p := List.take_of_length_le (by omega)
      have hm := HM.out; have ho := HO.out
      rw [htk] at hm ho
      rw [List.length_map] at hm
      have HM := Lib.hid hm; have HO := Lib.hid ho
      have hml : m ≤ 11 := by omega
      have HBW := Lib.hid (HB2.out.trans (HB.out.mono hsz2))
      have hcv := conv_row HO.out
      have hswr2 := HBW.out.size
      clear hm ho htk HS
      go_upto_if 36 with fail
      go_cut [9] (fun vo wx => vo = .string (str (Pn.front p)) ∧ wr = wx)
      case first =>
        by_cases h0 : 0 < m
        · have hf : Pn.front p = (Pn.basics p).map Pn.byte ++ [45] := by unfold Pn.front; rw [if_neg (by have := HM.out; omega)]
          have HF := Lib.hid hf
          have hap := str_append ((Pn.basics p).map Pn.byte) [45]
          have hs1 : (str ((Pn.basics p).map Pn.byte)).size ≤ 11 := by rw [str_size, List.length_map, HM.out]; exact hml
          have hs2 : (str [45]).size = 1 := rfl
          have hs3 : (str ((Pn.basics p).map Pn.byte ++ [45])).size ≤ 12 := by rw [str_size, List.length_append, List.length_map, HM.out]; show m + 1 ≤ _; omega
          have hap2 : str ((Pn.basics p).map Pn.byte) ++ (⟨#[45]⟩ : ByteArray) = str ((Pn.basics p).map Pn.byte ++ [45]) := hap
          have hs4 : (⟨#[45]⟩ : ByteArray).size = 1 := rfl
          clear hf
          go_wp2_with fail
          go_meet
          case rel => exact ⟨by rw [HF.out], by trivial⟩
        · have hf : Pn.front p = (Pn.basics p).map Pn.byte := by unfold Pn.front; rw [if_pos (by have := HM.out; omega), List.append_nil]
          have HF := Lib.hid hf
          clear hf
          go_wp2_with fail
          go_meet
          case rel => exact ⟨by rw [HF.out], by trivial⟩
      case rest =>
        obtain ⟨rfl, rfl⟩ := hcut
        obtain ⟨hf1, hf2⟩ := Pn.enc_front p
        have hlow := Pn.enc_low p
        have hall := Pn.enc_all p
        rw [HM.out] at hall
        clear HE HO hcv HB
        generalize Pn.enc p = T at *
        generalize Pn.front p = S at *
        have hz1 : (str T).size = T.length := str_size T
        have hz2 : (str S).size = S.length := str_size S
        have hex : (str T).extract 0 S.length = str S := by rw [extract_take (str T) S.length (by omega), lst_str, hf1]
        have hlen : ¬ ((T.length : Int) < (S.length : Int)) := by omega
        have hlen2 : (S.length : Int) ≤ (T.length : Int) := by omega
        have hT122 : T.length ≤ 122 := by omega
        have heqs : ∃ b : Bool, ((T.length : Int) == (S.length : Int)) = b ∧ ((m : Int) == (p.length : Int)) = b := by
          by_cases h : T.length = S.length
          · refine ⟨true, by rw [h]; simp, ?_⟩
            rw [hall.1 h]; simp
          · refine ⟨false, ?_, ?_⟩
            · rw [beq_eq_false_iff_ne]; omega
            · rw [beq_eq_false_iff_ne]; intro e; exact h (hall.2 (by omega))
        obtain ⟨bb, he1, he2⟩ := heqs
        have HLOW := Lib.hid hlow
        clear hall hf1 hlow hes
        go_wp2_with fail
        go_loopw [10] (fun vi wx => ∃ k : Nat, S.length ≤ k ∧ k ≤ T.length ∧ vi = .int .i64 k ∧ wr = wx) (fun vi _ => T.length - (intOf vi).toNat)
        case atStart => exact ⟨S.length, Nat.le_refl _, hf2, rfl, rfl⟩
        case round =>
          obtain ⟨k, hk1, hk2, rfl, rfl⟩ := hrel
          by_cases hlt : k < T.length
          · have hat := lst_at (str T) k (by omega)
            rw [lst_str] at hat
            have hlb := HLOW.out k hk1 hat
            have hki : (k : Int) < (T.length : Int) := by omega
            have hkz : k < (str T).size := by omega
            clear hat
            rcases hlb with ⟨g1, g2⟩ | ⟨g1, g2⟩
            · have g3 : (97 : Int) ≤ ((str T)[k].toNat : Int) := by omega
              have g4 : ((str T)[k].toNat : Int) ≤ 122 := by omega
              clear g1 g2
              go_wp2
              go_roundw
              case rel => exact ⟨k + 1, by omega, by omega, by go_num, by trivial⟩
              case measure => simp [intOf]; omega
            · have g3 : ¬ (97 : Int) ≤ ((str T)[k].toNat : Int) := by omega
              have g4 : (48 : Int) ≤ ((str T)[k].toNat : Int) := by omega
              have g5 : ((str T)[k].toNat : Int) ≤ 57 := by omega
              clear g1 g2
              go_wp2
              go_roundw
              case rel => exact ⟨k + 1, by omega, by omega, by go_num, by trivial⟩
              case measure => simp [intOf]; omega
          · have hkn : ¬ (k : Int) < (T.length : Int) := by omega
            go_wp2_with fail
            refine (awake10_any _).mono ?_
            rintro e w4 ⟨rfl, hb4⟩
            have HB4 := Lib.hid (HBW.out.trans (hb4.mono hswr2))
            clear hb4
            go_wp2
            go_ret
            first
              | exact ⟨rfl, HB4.out⟩
              | exact ⟨by simp [he1, he2], HB4.out⟩
end Go.Proofs.Ytoihjbiahccaaaa
