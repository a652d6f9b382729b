/- The walk of the reference's Label. -/
import Derived.Test.YtoihjbiahccaaaaReEn
import Derived.Test.YtoihjbiahccaaaaAlUn
namespace Go.Proofs.Ytoihjbiahccaaaa
open Go Go.RowKit
set_option linter.unusedVariables false

/-- What Label has before its length is looked at. -/
def LaMid (l : List Int) (w : World) (vo : Value) (wx : World) : Prop :=
  ∃ S : List UInt8, vo = .string (str S) ∧ S.length ≤ 17592186044000 ∧ Al.lab l = (if 63 < S.length then ([], 11) else (S, 0)) ∧ Below w.heap.size w wx
set_option maxRecDepth 100000 in
set_option maxHeartbeats 8000000 in
theorem rlabel_any (A : Option Addr) (c : Nat) (l : List Int) (B : Nat) (w : World) (hr : Rd w B 1 A l.length (ints l)) (hBw : B ≤ w.heap.size) (hl : l.length ≤ 17592186044000) :
    Calls Try.prog 28 #[.slice A l.length c] w fun e w' => e = .returned (.tuple #[.string (str (Al.lab l).1), .int .i64 (Al.lab l).2]) ∧ Below w.heap.size w w' := by
  by_cases h0 : l.length = 0
  · rw [Al.lab_nil h0]
    have h0i : ((l.length : Int) == 0) = true := by simp [h0]
    go_enter Try.func28, Try.ntmps28
    go_wp2
    go_ret2
    exact ⟨rfl, Below.refl _ _⟩
  have h0i : ((l.length : Int) == 0) = false := by rw [beq_eq_false_iff_ne]; omega
  have hlen0 : 0 < l.length := by omega
  have HR := Lib.hid hr; clear hr
  have H0 := Lib.hid h0; clear h0
  have hac := rascii_any A c l B w HR.out (by omega)
  cases ha : Al.ascii l
  · have HLB := Lib.hid (fun he => Al.lab_bad H0.out ha he)
    have HLP := Lib.hid (fun he => Al.lab_puny H0.out ha he)
    rw [ha] at hac
    have HAC := Lib.hid hac; clear hac ha
    go_enter Try.func28, Try.ntmps28
    go_wp2_with fail
    refine HAC.out.mono ?_
    rintro e w1 ⟨rfl, hw1⟩
    subst hw1
    go_wp2_with fail
    refine (rencode_any A c l B w HR.out hBw (by omega)).mono ?_
    rintro e w2 ⟨rfl, hb⟩
    have HB := Lib.hid hb
    have hsz := hb.size
    clear hb
    by_cases he : (Pn.encP l).2 = 0
    · have hl1 := HLP.out he
      have hsm := encP_small he
      rw [he]
      generalize (Pn.encP l).1 = M at *
      have hap : (⟨#[120, 110, 45, 45]⟩ : ByteArray) ++ str M = str ([120, 110, 45, 45] ++ M) := str_append [120, 110, 45, 45] M
      have hs1 : (⟨#[120, 110, 45, 45]⟩ : ByteArray).size = 4 := rfl
      have hs2 : (str M).size ≤ 10000 := by rw [str_size]; exact hsm
      have hs3 : (str ([120, 110, 45, 45] ++ M)).size = 4 + M.length := by rw [str_size, List.length_append]; rfl
      generalize [120, 110, 45, 45] ++ M = N at *
      have HL1 := Lib.hid hl1
      clear hl1 he HLB HLP
      by_cases h63 : 63 < 4 + M.length
      · have hl2 := HL1.out
        rw [if_pos h63] at hl2
        have HL2 := Lib.hid hl2; clear hl2
        have h63i : (63 : Int) < 4 + (M.length : Int) := by omega
        go_wp2
        go_ret2
        exact ⟨by rw [HL2.out]; rfl, HB.out⟩
      · have hl2 := HL1.out
        rw [if_neg h63] at hl2
        have HL2 := Lib.hid hl2; clear hl2
        have h63i : ¬ ((63 : Int) < 4 + (M.length : Int)) := by omega
        go_wp2
        go_ret2
        exact ⟨by rw [HL2.out]; rfl, HB.out⟩
    · have hl1 := HLB.out he
      generalize (Pn.encP l).1 = M at *
      generalize (Pn.encP l).2 = er at *
      have HL1 := Lib.hid hl1
      have hne : (er != 0) = true := by simpa using he
      clear hl1 HLB HLP he
      go_wp2
      go_ret2
      exact ⟨by rw [HL1.out]; rfl, HB.out⟩
  · have hl1 := Al.lab_asc H0.out ha
    have hbd : ∀ c ∈ l, 0 ≤ c ∧ c ≤ 127 := by
      intro c hc
      have := List.all_eq_true.1 ha c hc
      simpa using this
    have HBD := Lib.hid hbd
    have HL1 := Lib.hid hl1
    rw [ha] at hac
    have HAC := Lib.hid hac; clear hac ha hl1 hbd
    go_enter Try.func28, Try.ntmps28
    go_wp2_with fail
    refine HAC.out.mono ?_
    rintro e w1 ⟨rfl, hw1⟩
    subst hw1
    go_wp2_with fail
    go_loopw [4, 16] (fun vo vi wr => ∃ (k : Nat) (M : List UInt8), k ≤ l.length ∧ vi = .int .i64 k ∧ vo = .string (str M) ∧ M = (l.map Pn.byte).take k ∧ Below w.heap.size w wr) (fun _ vi _ => l.length - (intOf vi).toNat)
    case atStart => exact ⟨0, [], by omega, rfl, rfl, rfl, Below.refl _ _⟩
    case round =>
      obtain ⟨k, M, hk, rfl, rfl, hM, hb⟩ := hrel
      have HM := Lib.hid hM; have HB := Lib.hid hb
      have hsw := hb.size
      have hml : M.length = k := by rw [hM, List.length_take, List.length_map]; omega
      clear hM hb
      by_cases hlt : k < l.length
      · obtain ⟨b, off, cc, rfl, hb, hat, hcell⟩ := ints_cell (HR.out.below (HB.out.mono hBw)) hlt
        obtain ⟨g0, g1⟩ := HBD.out cc (List.mem_of_getElem? hat)
        have hbn := Pn.byte_num cc g0 (by omega)
        have hmp : (l.map Pn.byte).take (k + 1) = M ++ [Pn.byte cc] := by
          obtain ⟨q1, q2⟩ := List.getElem?_eq_some_iff.1 hat
          rw [List.take_succ_eq_append_getElem (by rw [List.length_map]; exact q1), List.getElem_map, q2, HM.out]
        have HMP := Lib.hid hmp
        have hcv := conv_one wr (Pn.byte cc) cc hbn
        have hbw : IntKind.u8.wrap cc = cc := by rw [IntKind.wrap_u8]; omega
        have hap := str_append M [Pn.byte cc]
        have hs1 : (str M).size ≤ 17592186044000 := by rw [str_size]; omega
        have hs2 : (str [Pn.byte cc]).size = 1 := rfl
        have hs3 : (str (M ++ [Pn.byte cc])).size ≤ 17592186044001 := by rw [str_size, List.length_append]; show M.length + 1 ≤ _; omega
        have HB2 := Lib.hid (HB.out.alloc hsw (.cells #[.int .u8 cc] 5))
        clear hat hbn hmp hml
        generalize Pn.byte cc = y at *
        go_wp2
        go_roundw
        case rel => exact ⟨k + 1, M ++ [y], by omega, by go_num, rfl, HMP.out.symm, HB2.out⟩
        case measure => simp [intOf]; omega
      · have hkn : k = l.length := by omega
        have hfin : M = l.map Pn.byte := by rw [HM.out, hkn, List.take_of_length_le (by simp)]
        have hss : (str M).size = l.length := by rw [str_size, hml, hkn]
        have HF := Lib.hid hfin
        clear hfin hml hkn hk
        by_cases h63 : 63 < l.length
        · have hl2 := HL1.out
          rw [if_pos h63] at hl2
          have HL2 := Lib.hid hl2; clear hl2
          have h63i : (63 : Int) < (l.length : Int) := by omega
          go_wp2
          go_ret2
          exact ⟨by rw [HL2.out]; rfl, HB.out⟩
        · have hl2 := HL1.out
          rw [if_neg h63] at hl2
          have HL2 := Lib.hid hl2; clear hl2
          have h63i : ¬ ((63 : Int) < (l.length : Int)) := by omega
          go_wp2
          go_ret2
          exact ⟨by rw [HL2.out, ← HF.out]; rfl, HB.out⟩
end Go.Proofs.Ytoihjbiahccaaaa
