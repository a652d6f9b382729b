/- The walk of the reference's Encode. -/
import Derived.Test.YtoihjbiahccaaaaReM
namespace Go.Proofs.Ytoihjbiahccaaaa
open Go Go.RowKit
set_option linter.unusedVariables false

set_option maxHeartbeats 2000000 in
theorem rencode_bad_any (A : Option Addr) (c : Nat) (l : List Int) (w : World) (h : 256 < l.length) (hl : l.length ≤ 1000000000000000) :
    Calls Try.prog 17 #[.slice A l.length c] w fun e w' => e = .returned (.tuple #[.string (str (Pn.encP l).1), .int .i64 (Pn.encP l).2]) ∧ Below w.heap.size w w' := by
  have HE := Lib.hid (encP_long h)
  have hi : (256 : Int) < (l.length : Int) := by omega
  go_enter Try.func17, Try.ntmps17
  go_wp2
  go_ret2
  exact ⟨by rw [HE.out]; rfl, Below.refl _ _⟩
/-- While the numbers are looked through: the first k. -/
def ReOne (w : World) (g : Nat) (l : List Int) (k : Nat) (v : Value) (wr : World) : Prop :=
  ∃ M : List UInt8, v = .string (str M) ∧ M = (Pn.basics (l.take k)).map Pn.byte ∧ Dn wr g l.length (fun j => decide (j < k ∧ l.getD j 0 < 128)) ∧ Below w.heap.size w wr ∧ ∀ c ∈ l.take k, Pn.scalar c = true
theorem take_all {l : List Int} {k : Nat} {c : Int} (hk : l[k]? = some c) (hs : Pn.scalar c = true) (h : ∀ c ∈ l.take k, Pn.scalar c = true) : ∀ c ∈ l.take (k + 1), Pn.scalar c = true := by
  intro x hx
  obtain ⟨g1, g2⟩ := List.getElem?_eq_some_iff.1 hk
  rw [List.take_succ_eq_append_getElem g1, g2] at hx
  rcases List.mem_append.1 hx with hx | hx
  · exact h x hx
  · rw [List.mem_singleton.1 hx]; exact hs
/-- How many places are not done. -/
def openAt (w : World) (g j : Nat) : Bool := match w.cell? ⟨g, j, none⟩ with | some (.bool false) => true | _ => false
def openN (w : World) (g n : Nat) : Nat := (List.range n).countP (openAt w g)
theorem Dn.left {w : World} {g : Nat} {l : List Int} {m : Int} {k : Nat} (h : Dn w g l.length (Pn.ng l m k)) : openN w g l.length = Pn.left l m k := by
  unfold openN Pn.left
  apply List.countP_congr
  intro q hq
  rw [List.mem_range] at hq
  have h2 := Pn.ng_iff l m k q hq
  unfold openAt
  rw [(h.cell q hq).1]
  cases hb : Pn.ng l m k q
  · have hG : Pn.Ge l m k q := by
      cases Classical.em (Pn.Ge l m k q) with
      | inl h => exact h
      | inr h => exact absurd (h2.2 h) (by rw [hb]; simp)
    simp [hG]
  · have := h2.1 hb
    simp [this]
set_option maxRecDepth 100000 in
set_option maxHeartbeats 16000000 in
theorem rencode_any (A : Option Addr) (c : Nat) (l : List Int) (B : Nat) (w : World) (hr : Rd w B 1 A l.length (ints l)) (hBw : B ≤ w.heap.size) (hl : l.length ≤ 1000000000000000) :
    Calls Try.prog 17 #[.slice A l.length c] w fun e w' => e = .returned (.tuple #[.string (str (Pn.encP l).1), .int .i64 (Pn.encP l).2]) ∧ Below w.heap.size w w' := by
  by_cases hlong : 256 < l.length
  · exact rencode_bad_any A c l w hlong hl
  have hl256 : l.length ≤ 256 := by omega
  clear hlong hl
  have HR := Lib.hid hr; clear hr
  have hmk := run_make_row' (P := Try.prog) 49 4 (.bool false) 1 Try.underlying49 (by kernel_rfl) rfl .i64 .i64 l.length (by omega) (by omega)
  have hdn := Dn.new w l.length
  have hbl := (Below.refl w.heap.size w).alloc (Nat.le_refl _) (.cells (madeCells #[.bool false] l.length) 4)
  have HDN := Lib.hid hdn; have HBL := Lib.hid hbl
  clear hdn hbl
  have hg0 : w.heap.size < (w.alloc (.cells (madeCells #[.bool false] l.length) 4)).heap.size := HDN.out.lt
  go_enter Try.func17, Try.ntmps17
  go_wp2_with fail
  clear hmk
  generalize w.alloc (.cells (madeCells #[.bool false] l.length) 4) = w0 at *
  go_loopw [4, 26] (fun vo vi wr => ∃ k : Nat, k ≤ l.length ∧ vi = .int .i64 k ∧ ReOne w w.heap.size l k vo wr) (fun _ vi _ => l.length - (intOf vi).toNat)
  case atStart => exact ⟨0, by omega, rfl, [], rfl, rfl, HDN.out.congr (fun j hj => by simp), HBL.out, by simp⟩
  case round =>
    obtain ⟨k, hk, rfl, M, rfl, hM, hd, hbl, hsc⟩ := hrel
    have HM := Lib.hid hM; have HD := Lib.hid hd; have HB := Lib.hid hbl; have HS := Lib.hid hsc
    have hswr : w.heap.size < wr.heap.size := hd.lt
    clear hM hd hbl hsc HDN HBL
    by_cases hlt : k < l.length
    · obtain ⟨b, off, cc, rfl, hb, hat, hcell⟩ := ints_cell (HR.out.below (HB.out.mono hBw)) hlt
      have HAT := Lib.hid hat
      have hgd : l.getD k 0 = cc := by rw [List.getD_eq_getElem?_getD, hat]; rfl
      have HGD := Lib.hid hgd
      clear hat hgd
      go_wp2_with fail
      refine (rscalar_any cc _).mono ?_
      rintro e w9 ⟨rfl, hw9⟩
      subst hw9
      cases hsc' : Pn.scalar cc
      · have HE := Lib.hid (encP_bad hl256 HAT.out hsc')
        clear hsc'
        go_wp2
        go_ret2
        exact ⟨by rw [HE.out]; rfl, HB.out⟩
      · have hc0 := (Pn.scalar_bd hsc').1
        have HS2 := Lib.hid (take_all HAT.out hsc' HS.out)
        have hbs := bas_succ HAT.out
        have HBS := Lib.hid hbs
        clear hsc' hbs
        by_cases hc : cc < 128
        · have hbn := Pn.byte_num cc hc0 (by omega)
          have hcv := conv_one wr (Pn.byte cc) cc hbn
          have hbw : IntKind.u8.wrap cc = cc := by rw [IntKind.wrap_u8]; omega
          have hap := str_append M [Pn.byte cc]
          have hml : M.length ≤ k := by rw [HM.out, List.length_map]; have := Pn.basics_len (l.take k); rw [List.length_take] at this; omega
          have hs1 : (str M).size ≤ 1000 := by rw [str_size]; omega
          have hs2 : (str [Pn.byte cc]).size = 1 := rfl
          have hs3 : (str (M ++ [Pn.byte cc])).size ≤ 1001 := by rw [str_size, List.length_append]; show M.length + 1 ≤ _; omega
          have hmp : M ++ [Pn.byte cc] = (Pn.basics (l.take (k + 1))).map Pn.byte := by rw [HBS.out, if_pos hc, HM.out]; simp
          have HMP := Lib.hid hmp
          have HDA := Lib.hid (HD.out.alloc (.cells #[.int .u8 cc] 5))
          obtain ⟨hd1, hd2⟩ := HDA.out.cell k hlt
          obtain ⟨hd3, hd4⟩ := HD.out.cell k hlt
          have HDP := Lib.hid (((HD.out.put k hlt).alloc (.cells #[.int .u8 cc] 5)).congr (f' := fun j => decide (j < k + 1 ∧ l.getD j 0 < 128)) (fun j hj => by
            by_cases e : j = k
            · subst e; rw [HGD.out]; simp [hc]
            · have : (j < k + 1) ↔ (j < k) := by omega
              simp only [decide_eq_false e, Bool.or_false, this]))
          have HBP := Lib.hid ((HB.out.setCell (p := ⟨w.heap.size, k, none⟩) (Nat.le_refl _) (.bool true)).alloc (by simp; omega) (.cells #[.int .u8 cc] 5))
          clear hbn hmp
          generalize Pn.byte cc = y at *
          go_wp2
          go_roundw
          case rel => exact ⟨k + 1, by omega, by go_num, M ++ [y], rfl, HMP.out, HDP.out, HBP.out, HS2.out⟩
          case measure => simp [intOf]; omega
        · have hmp : M = (Pn.basics (l.take (k + 1))).map Pn.byte := by rw [HBS.out, if_neg hc, HM.out]; simp
          have HMP := Lib.hid hmp
          have HDP := Lib.hid (HD.out.congr (f' := fun j => decide (j < k + 1 ∧ l.getD j 0 < 128)) (fun j hj => by
            by_cases e : j = k
            · subst e; rw [HGD.out]; simp [hc]
            · have : (j < k + 1) ↔ (j < k) := by omega
              simp only [this]))
          clear hmp
          go_wp2
          go_roundw
          case rel => exact ⟨k + 1, by omega, by go_num, M, rfl, HMP.out, HDP.out, HB.out, HS2.out⟩
          case measure => simp [intOf]; omega
    · have htk : l.take k = l := List.take_of_length_le (by omega)
      have hkl : k = l.length := by omega
      have hm := HM.out; have hsc := HS.out
      rw [htk] at hm hsc
      have HE := Lib.hid (encP_good hl256 hsc)
      have HDS := Lib.hid (HD.out.congr (f' := Pn.ng l 128 0) (fun j hj => by
        rw [ng_start]
        have : (j < k ∧ l.getD j 0 < 128) ↔ (l.getD j 0 < 128) := ⟨fun h => h.2, fun h => ⟨by omega, h⟩⟩
        simp only [this]))
      have HM := Lib.hid hm; have HSC := Lib.hid hsc
      have hml : M.length ≤ 256 := by rw [hm, List.length_map]; have := Pn.basics_len l; omega
      clear hm hsc htk HS HD hkl
      go_upto_if 47 with fail
      go_cut [4] (fun vo wx => vo = .string (str (Pn.sofar l [])) ∧ wr = wx)
      case first =>
        by_cases h0 : M = []
        · have he : (str M).toList.isEmpty = true := by rw [h0, size_empty]; rfl
          have hf : Pn.sofar l [] = M := by
            rw [Pn.sofar_nil]; unfold Pn.front
            have h1 := HM.out
            rw [h0] at h1
            have h2 : Pn.basics l = [] := by have := congrArg List.length h1; rw [List.length_map] at this; exact List.length_eq_zero_iff.1 this.symm
            rw [h2, h0]; rfl
          have HF := Lib.hid hf
          clear hf h0
          go_wp2_with fail
          all_goals first | (exfalso; have h2 := ‹(!(str M).toList.isEmpty) = true›; rw [he] at h2; cases h2; done) | skip
          go_meet
          case rel => exact ⟨by rw [HF.out], by trivial⟩
        · have he : (str M).toList.isEmpty = false := str_ne h0
          have hf : Pn.sofar l [] = M ++ [45] := by
            rw [Pn.sofar_nil]; unfold Pn.front
            rw [← HM.out, if_neg]
            intro e
            apply h0
            rw [HM.out, List.length_eq_zero_iff.1 e]; rfl
          have HF := Lib.hid hf
          have hap : str M ++ (⟨#[45]⟩ : ByteArray) = str (M ++ [45]) := str_append M [45]
          have hs1 : (str M).size ≤ 256 := by rw [str_size]; exact hml
          have hs2 : (⟨#[45]⟩ : ByteArray).size = 1 := rfl
          have hs3 : (str (M ++ [45])).size ≤ 257 := by rw [str_size, List.length_append]; show M.length + 1 ≤ _; omega
          clear hf h0
          go_wp2_with fail
          all_goals first | (exfalso; rename_i h; rw [he] at h; cases h; done) | skip
          go_meet
          case rel => exact ⟨by rw [HF.out], by trivial⟩
      case rest =>
        obtain ⟨rfl, rfl⟩ := hcut
        have hrp : ∀ c ∈ l, c ≤ 1114111 := fun c hc => (Pn.scalar_bd (HSC.out c hc)).2
        have hr0 : ∀ c ∈ l, 0 ≤ c := fun c hc => (Pn.scalar_bd (HSC.out c hc)).1
        have HRP := Lib.hid hrp; have HR0 := Lib.hid hr0; clear hrp hr0
        go_wp2_with fail
        go_loopw [4, 8, 9, 10, 11] (fun vo vn vi vb vf wy => ∃ (m : Int) (k : Nat) (st : Pn.St) (pre : List Int), 0 ≤ m ∧ Pn.Inv l m k st ∧ 0 ≤ st.b ∧ st.b ≤ 720 ∧ pre ++ Pn.tl l m k st = Pn.tl l 128 0 (Pn.st0 l) ∧
            vo = .string (str (Pn.sofar l pre)) ∧ vn = .int .i64 st.n ∧ vi = .int .i64 st.i ∧ vb = .int .i64 st.b ∧ vf = .bool st.first ∧ Dn wy w.heap.size l.length (Pn.ng l m k) ∧ Below w.heap.size w wy) (fun _ _ _ _ _ wy => openN wy w.heap.size l.length)
        case atStart => exact ⟨128, 0, Pn.st0 l, [], by omega, Pn.inv_start l, by simp [Pn.st0], by simp [Pn.st0], rfl, rfl, rfl, rfl, rfl, rfl, HDS.out, HB.out⟩
        case round =>
          obtain ⟨m, kk, st, pre, hm0, hinv, hb0, hb1, hpre, rfl, rfl, rfl, rfl, rfl, hd2, hbl2⟩ := hrel
          have HINV := Lib.hid hinv; have HPRE := Lib.hid hpre; have HD2 := Lib.hid hd2; have HB2 := Lib.hid hbl2
          have hsw2 := hbl2.size
          have hgl2 := hd2.lt
          clear hinv hpre hd2 hbl2 HDS HB
          go_wp2_with fail
          refine (least_any A c l.length l ((List.range l.length).map (Pn.ng l m kk)) w.heap.size B wr (HR.out.below (HB2.out.mono hBw)) (by simp) HD2.out.bls (by omega)).mono ?_
          rintro e w3 ⟨⟨b, rfl, hle⟩, rfl⟩
          rcases hle.next with ⟨rfl, hno⟩ | ⟨p, rfl, hx⟩
          · have hdone : Pn.sofar l pre = Pn.enc l := by
              have := HPRE.out
              rw [Pn.tl_done hno, List.append_nil] at this
              rw [this]; rfl
            have HF := Lib.hid hdone
            clear hle hno hdone
            go_wp2
            go_ret2
            exact ⟨by rw [HE.out, ← HF.out]; rfl, HB2.out⟩
          · have HX := Lib.hid hx
            have hp : p < l.length := hx.1.1
            have hfn : (Pn.PL l m kk).length = st.h := HINV.out.2.2.symm
            have hcall := (cnt_all (l := l) (m := m) (k := kk)).trans hfn
            have hcb := cnt_before hx p (Nat.le_refl _)
            have HCA := Lib.hid hcall; have HCB := Lib.hid hcb
            clear hle hx hfn hcall hcb
            have hpi : (p : Int) < (l.length : Int) := by omega
            go_wp2_with fail
            go_loopw [13, 14, 58] (fun vh vq vi wx => ∃ q : Nat, q ≤ l.length ∧ vi = .int .i64 q ∧ vh = .int .i64 (cnt (Pn.ng l m kk) q : Nat) ∧ vq = .int .i64 (cnt (Pn.ng l m kk) (min q p) : Nat) ∧ wr = wx) (fun _ _ vi _ => l.length - (intOf vi).toNat)
            case atStart => exact ⟨0, by omega, rfl, rfl, by simp [cnt], rfl⟩
            case round =>
              obtain ⟨q, hq, rfl, rfl, rfl, rfl⟩ := hrel
              have hq1 := cnt_le (Pn.ng l m kk) q
              have hq2 := cnt_le (Pn.ng l m kk) (min q p)
              by_cases hlt : q < l.length
              · obtain ⟨hc1, hc2⟩ := HD2.out.cell q hlt
                have hn1 : cnt (Pn.ng l m kk) (q + 1) = cnt (Pn.ng l m kk) q + (if Pn.ng l m kk q = true then 1 else 0) := rfl
                have hqi : (q : Int) < (l.length : Int) := by omega
                cases hng : Pn.ng l m kk q
                · rw [hng] at hc1 hn1
                  have hn2 : cnt (Pn.ng l m kk) (min (q + 1) p) = cnt (Pn.ng l m kk) (min q p) := by
                    by_cases hqp : q < p
                    · rw [show min (q + 1) p = q + 1 by omega, show min q p = q by omega, hn1]; rfl
                    · rw [show min (q + 1) p = p by omega, show min q p = p by omega]
                  have HN1 := Lib.hid hn1; have HN2 := Lib.hid hn2
                  clear hn1 hn2 hng
                  go_wp2
                  go_roundw
                  case rel => exact ⟨q + 1, by omega, by go_num, by rw [HN1.out]; rfl, by rw [HN2.out], by trivial⟩
                  case measure => simp [intOf]; omega
                · rw [hng] at hc1 hn1
                  by_cases hqp : q < p
                  · have hn2 : cnt (Pn.ng l m kk) (min (q + 1) p) = cnt (Pn.ng l m kk) (min q p) + 1 := by
                      rw [show min (q + 1) p = q + 1 by omega, show min q p = q by omega, hn1]; rfl
                    have HN1 := Lib.hid hn1; have HN2 := Lib.hid hn2
                    have hqpi : (q : Int) < (p : Int) := by omega
                    clear hn1 hn2 hng
                    go_wp2
                    go_roundw
                    case rel => exact ⟨q + 1, by omega, by go_num, by rw [HN1.out]; go_num, by rw [HN2.out]; go_num, by trivial⟩
                    case measure => simp [intOf]; omega
                  · have hn2 : cnt (Pn.ng l m kk) (min (q + 1) p) = cnt (Pn.ng l m kk) (min q p) := by
                      rw [show min (q + 1) p = p by omega, show min q p = p by omega]
                    have HN1 := Lib.hid hn1; have HN2 := Lib.hid hn2
                    have hqpi : ¬ (q : Int) < (p : Int) := by omega
                    clear hn1 hn2 hng
                    go_wp2
                    go_roundw
                    case rel => exact ⟨q + 1, by omega, by go_num, by rw [HN1.out]; go_num, by rw [HN2.out], by trivial⟩
                    case measure => simp [intOf]; omega
              · have hql : q = l.length := by omega
                subst hql
                rw [show min l.length p = p by omega, HCB.out, HCA.out]
                clear hq1 hq2 hlt hq
                have hxr := HX.out
                obtain ⟨b', off', x, rfl, hbx, hatx, hcx⟩ := ints_cell (HR.out.below (HB2.out.mono hBw)) hp
                have hgx : l.getD p 0 = x := by rw [List.getD_eq_getElem?_getD, hatx]; rfl
                have hx0 := HR0.out x (List.mem_of_getElem? hatx)
                have hx1 := HRP.out x (List.mem_of_getElem? hatx)
                obtain ⟨n1, n2, n3⟩ := Pn.num_bd hxr HINV.out
                have n4 := Pn.num_hi hxr HINV.out hm0 hl256 (by rw [hgx]; exact hx1)
                have hnm : Pn.num l st p = (l.getD p 0 - st.n) * ((st.h : Int) + 1) + Pn.cle (l.take p) (l.getD p 0) - st.i := rfl
                have hstn := HINV.out.1
                have hsti := HINV.out.2.1
                have hsth : st.h ≤ 256 := by rw [HINV.out.2.2]; have := Pn.PL_len_le l m kk; omega
                have hci := Pn.cle_PL l m kk
                rw [← HINV.out.2.2] at hci
                have hem : Pn.emit l st p = ⟨l.getD p 0, Pn.cle (l.take p) (l.getD p 0) + 1, Pn.adapt (Pn.num l st p) (st.h + 1) st.first, false, st.h + 1⟩ := rfl
                have hts := Pn.tl_step hxr st
                have hpre2 : (pre ++ Pn.dig (Pn.num l st p) st.b) ++ Pn.tl l (l.getD p 0) (p + 1) (Pn.emit l st p) = Pn.tl l 128 0 (Pn.st0 l) := by rw [List.append_assoc, ← hts]; exact HPRE.out
                have hpl := tl_at hpre2 HRP.out hl256
                have hsl := Pn.sofar_len l (pre ++ Pn.dig (Pn.num l st p) st.b)
                rw [← Pn.sofar_append] at hsl
                have hap := str_append (Pn.sofar l pre) ((Pn.dig (Pn.num l st p) st.b).map Pn.dgt)
                rw [Pn.sofar_append] at hap
                have hl1 : (str (Pn.sofar l pre)).size ≤ 3000 := by rw [str_size]; rw [List.length_append] at hsl; omega
                have hl2 : (str ((Pn.dig (Pn.num l st p) st.b).map Pn.dgt)).size ≤ 3000 := by rw [str_size, List.length_map]; rw [List.length_append] at hpl; omega
                have hl3 : (str (Pn.sofar l (pre ++ Pn.dig (Pn.num l st p) st.b))).size ≤ 3000 := by rw [str_size, ← Pn.sofar_append]; omega
                have hinv2 := Pn.inv_emit hxr HINV.out
                have hlft : Pn.left l (l.getD p 0) (p + 1) < Pn.left l m kk := Pn.left_step hxr
                have hab := Pn.adapt_bd (Pn.num l st p) ((st.h : Int) + 1) st.first
                obtain ⟨hdp1, hdp2⟩ := HD2.out.cell p hp
                have HDP := Lib.hid ((HD2.out.put p hp).congr (f' := Pn.ng l (l.getD p 0) (p + 1)) (fun j hj => ng_next hxr j hj))
                have HBP := Lib.hid (HB2.out.setCell (p := ⟨w.heap.size, p, none⟩) (Nat.le_refl _) (.bool true))
                have HLF := Lib.hid hlft; have HEM := Lib.hid hem; have HPR := Lib.hid hpre2; have HIV := Lib.hid hinv2
                rw [hgx] at hnm n2 n3
                rw [hgx]
                generalize hJ : Pn.cle (l.take p) x = J at *
                have HJ := Lib.hid hJ
                have HGX := Lib.hid hgx
                clear hJ
                clear hts hpl hsl hinv2 hlft hem hpre2 hxr hatx
                generalize hN : Pn.num l st p = N at *
                generalize hP : (x - st.n) * ((st.h : Int) + 1) = P at *
                have hmx : m ≤ x := by have := HX.out.1.2; rw [hgx] at this; omega
                have hnx : st.n ≤ x := by omega
                have hn0 : 0 ≤ st.n := by omega
                have hi0 : 0 ≤ st.i := by omega
                have hi1 : st.i ≤ 256 := by omega
                have hPa : 0 ≤ P := by rw [← hP]; exact Int.mul_nonneg (by omega) (by omega)
                have hPb : P ≤ 286332000 := by omega
                have hJb : (J : Int) ≤ 256 := by omega
                have hP0 : 0 ≤ P + (J : Int) - st.i := by omega
                have hP1 : P + (J : Int) - st.i ≤ 286331153 := by omega
                have HNM := Lib.hid hnm; have HNN := Lib.hid hN
                clear hnm hN hmx HX hstn hsti hci n2
                go_wp2_with fail
                rw [← HNM.out]
                refine (rnumber_any N st.b n1 (by omega) hb0 (by omega) _).mono ?_
                rintro e w9 ⟨rfl, hw9⟩
                subst hw9
                go_wp2_with fail
                refine (radapt_any N ((st.h : Int) + 1) st.first _).mono ?_
                rintro e w9 ⟨rfl, hw9⟩
                subst hw9
                go_wp2
                go_roundw
                case rel => exact ⟨l.getD p 0, p + 1, Pn.emit l st p, pre ++ Pn.dig N st.b, by rw [HGX.out]; exact hx0, HIV.out, by rw [HEM.out]; exact hab.1, by rw [HEM.out]; exact hab.2, HPR.out, rfl, by rw [HEM.out, HGX.out], by rw [HEM.out, HGX.out, HJ.out], by rw [HEM.out], by rw [HEM.out], HDP.out, HBP.out⟩
                case measure =>
                  show openN _ _ _ < openN _ _ _
                  rw [HDP.out.left, HD2.out.left]; exact HLF.out
end Go.Proofs.Ytoihjbiahccaaaa
