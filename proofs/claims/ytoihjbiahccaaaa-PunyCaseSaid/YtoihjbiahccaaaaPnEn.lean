/- The walk of puny.Encode: it returns what the plain law writes. -/
import Derived.Test.YtoihjbiahccaaaaPnSc
import Derived.Test.YtoihjbiahccaaaaCells
import Derived.Deep.DeepCutAuto
import Derived.Deep.QuietTactic
import Derived.BigQuiet
namespace Go.Proofs.Ytoihjbiahccaaaa
open Go Go.RowKit
set_option linter.unusedVariables false

/-- Bytes as a string. -/
def str (s : List UInt8) : ByteArray := ⟨s.toArray⟩
theorem bas_succ {l : List Int} {k : Nat} {c : Int} (hk : l[k]? = some c) : Pn.basics (l.take (k + 1)) = Pn.basics (l.take k) ++ (if c < 128 then [c] else []) := by
  obtain ⟨h1, h2⟩ := List.getElem?_eq_some_iff.1 hk
  unfold Pn.basics
  rw [List.take_succ_eq_append_getElem h1, h2, List.filter_append, List.filter_cons]
  by_cases hc : c < 128
  · simp [hc]
  · simp [hc]
theorem byte_wrap (c : Int) (h0 : 0 ≤ c) (h1 : c < 128) : IntKind.u8.wrap c = ((Pn.byte c).toNat : Int) := by
  rw [Pn.byte_num c h0 (by omega), IntKind.wrap_u8]; omega
theorem encP_long {l : List Int} (h : 256 < l.length) : Pn.encP l = ([], 7) := by unfold Pn.encP; rw [if_pos h]
theorem encP_bad {l : List Int} (h : l.length ≤ 256) {k : Nat} {c : Int} (hk : l[k]? = some c) (hc : Pn.scalar c = false) : Pn.encP l = ([], 3) := by
  unfold Pn.encP
  rw [if_neg (by omega), if_neg]
  intro ha
  rw [List.all_eq_true.1 ha c (List.mem_of_getElem? hk)] at hc; cases hc
theorem encP_good {l : List Int} (h : l.length ≤ 256) (ha : ∀ c ∈ l, Pn.scalar c = true) : Pn.encP l = (Pn.enc l, 0) := by
  unfold Pn.encP
  rw [if_neg (by omega), if_pos (List.all_eq_true.2 ha)]
/-- The first loop: the basic ones so far, all scalar. -/
def EnOne (w : World) (l : List Int) (k : Nat) (v : Value) (wr : World) : Prop :=
  ∃ m A c, ((Pn.basics (l.take k)).map Pn.byte).length = m ∧ m ≤ k ∧ v = .slice A m c ∧ wr.ownsRow w.heap.size 5 1 (.slice A m c) m (bys ((Pn.basics (l.take k)).map Pn.byte)) ∧ Below w.heap.size w wr ∧ (∀ c ∈ l.take k, Pn.scalar c = true)
theorem EnOne.skip {w : World} {l : List Int} {k : Nat} {v : Value} {wr : World} {c : Int} (h : EnOne w l k v wr) (hk : l[k]? = some c) (hs : Pn.scalar c = true) (hc : ¬ c < 128) : EnOne w l (k + 1) v wr := by
  obtain ⟨m, A, c', h1, h2, h3, h4, h5, h6⟩ := h
  have e := bas_succ hk
  rw [if_neg hc, List.append_nil] at e
  refine ⟨m, A, c', by rw [e]; exact h1, by omega, h3, by rw [e]; exact h4, h5, ?_⟩
  intro x hx
  obtain ⟨g1, g2⟩ := List.getElem?_eq_some_iff.1 hk
  rw [List.take_succ_eq_append_getElem g1, g2] at hx
  rcases List.mem_append.1 hx with hx | hx
  · exact h6 x hx
  · rw [List.mem_singleton.1 hx]; exact hs

set_option maxHeartbeats 4000000 in
theorem encode_bad_any (A : Option Addr) (c : Nat) (l : List Int) (w : World) (h : 256 < l.length) (hl : l.length ≤ 1000000000000000) :
    Calls Try.prog 16 #[.slice A l.length c] w fun e w' => e = .returned (.tuple #[.string (str (Pn.encP l).1), .int .i64 (Pn.encP l).2]) ∧ Below w.heap.size w w' := by
  rw [encP_long h]
  go_enter Try.func16, Try.ntmps16
  go_wp2
  go_ret2
  exact ⟨rfl, Below.refl _ _⟩
theorem run_min2 {P : Program} (w : World) (ts : Array TypeId) (t : TypeId) (x y : Int) : (Builtin.min_ ts t #[.int .i64 x, .int .i64 y]).run P w = .ok (.int .i64 (min x y)) w := by
  have e : min x y = if y < x then y else x := by split <;> omega
  rw [e]; simp [Builtin.min_, Builtin.min2]
/-- A row of bytes as a string. -/
theorem conv_row {w : World} {base : Nat} {A : Option Addr} {n c : Nat} {s : List UInt8} (h : w.ownsRow base 5 1 (.slice A n c) n (bys s)) :
    (convert 38 9 (.slice A n c)).run Try.prog w = .ok (.string (str s)) w := by
  have hl : s.length = n := by have := h.1; rw [bys_length] at this; omega
  rcases h.2 with ⟨hv, h0⟩ | ⟨g, cap, cur, hv, _, hh, hnc, _⟩
  · injection hv with e1 e2 e3
    subst e1; subst e3; subst h0
    have : s = [] := List.eq_nil_of_length_eq_zero hl
    subst this
    rw [run_convert_bytes_string w _ _ _ none 0 0 Try.underlying38 Try.underlying5 Try.underlying9]
    rfl
  · injection hv with e1 e2 e3
    subst e1; subst e3; subst hl
    exact run_convert_bytes_back w _ _ _ ⟨g, 0, none⟩ c s Try.underlying38 Try.underlying5 Try.underlying9 (fun j hj => by
      have := h.cells (g := g) rfl j (.int .u8 (s[j].toNat : Int)) (by rw [bys_at, List.getElem?_eq_getElem hj]; rfl)
      exact this)
/-- What is written behind pre. -/
def Pn.sofar (l : List Int) (pre : List Int) : List UInt8 := Pn.front l ++ pre.map Pn.dgt
theorem Pn.sofar_nil (l : List Int) : Pn.sofar l [] = Pn.front l := by simp [Pn.sofar]
theorem Pn.sofar_append (l pre ys : List Int) : Pn.sofar l pre ++ ys.map Pn.dgt = Pn.sofar l (pre ++ ys) := by simp [Pn.sofar]
theorem Pn.sofar_len (l pre : List Int) : (Pn.sofar l pre).length ≤ l.length + 1 + pre.length := by
  unfold Pn.sofar Pn.front
  have := Pn.basics_len l
  split <;> simp <;> omega
theorem rd_one_u8x {w : World} {z : Nat} (hz : w.heap.size = z) {b : UInt8} {x : Int} (hx : (b.toNat : Int) = x) : Rd (w.alloc (.cells #[.int .u8 x] 5)) (z + 1) 1 (some ⟨z, 0, none⟩) 1 (bys [b]) := by
  subst hx; exact rd_one_u8 hz b
set_option maxRecDepth 100000 in
set_option maxHeartbeats 16000000 in
theorem encode_any (A : Option Addr) (c : Nat) (l : List Int) (B : Nat) (w : World) (hr : Rd w B 1 A l.length (ints l)) (hBw : B ≤ w.heap.size) (hl : l.length ≤ 1000000000000000) :
    Calls Try.prog 16 #[.slice A l.length c] w fun e w' => e = .returned (.tuple #[.string (str (Pn.encP l).1), .int .i64 (Pn.encP l).2]) ∧ Below w.heap.size w w' := by
  by_cases hlong : 256 < l.length
  · exact encode_bad_any A c l w hlong hl
  have hl256 : l.length ≤ 256 := by omega
  clear hlong hl
  have HR := Lib.hid hr; clear hr
  go_enter Try.func16, Try.ntmps16
  go_wp2_with fail
  go_loopw [4, 22] (fun vo vi wr => ∃ k : Nat, k ≤ l.length ∧ vi = .int .i64 k ∧ EnOne w l k vo wr) (fun _ vi _ => l.length - (intOf vi).toNat)
  case atStart => exact ⟨0, by omega, rfl, 0, none, 0, rfl, by omega, rfl, World.ownsRow_nil _ _ _ _, Below.refl _ _, by simp⟩
  case round =>
    obtain ⟨k, hk, rfl, m, A', c', hm, hmk, rfl, ho, hbl, hsc⟩ := hrel
    have HM := Lib.hid hm; have HO := Lib.hid ho; have HB := Lib.hid hbl; have HS := Lib.hid hsc
    have hswr := hbl.size
    clear hm ho hbl hsc
    by_cases hlt : k < l.length
    · obtain ⟨b, off, cc, rfl, hb, hat, hcell⟩ := ints_cell (HR.out.below (HB.out.mono hBw)) hlt
      have HAT := Lib.hid hat; clear hat
      go_wp2_with fail
      refine (length_any cc _).mono ?_
      rintro e w9 ⟨rfl, hw9⟩
      subst hw9
      have hz := Pn.len_zero cc
      generalize Pn.len cc = ln at *
      cases hsc' : Pn.scalar cc
      · rw [hsc'] at hz
        have HE := Lib.hid (encP_bad hl256 HAT.out hsc')
        clear hsc'
        go_wp2
        go_ret2
        exact ⟨by rw [HE.out]; rfl, HB.out⟩
      · rw [hsc'] at hz
        have hc0 := (Pn.scalar_bd hsc').1
        have HSC := Lib.hid hsc'
        clear hsc'
        by_cases hc : cc < 128
        · have hbn := Pn.byte_num cc hc0 (by omega)
          have HBN := Lib.hid hbn; clear hbn
          go_wp2_with (at_builtin; refine app_byte (by rfl) _ _ rfl (base := w.heap.size) rfl (HO.out.alloc _) rfl (rd_one_u8x (z := wr.heap.size) rfl HBN.out) (by omega) (by simp <;> omega) ?_)
          intro A4 c4 w4 ho4 hg4 hc4
          have HP := Lib.hid (own_below HO.out HB.out _ hg4 hswr)
          have hbs := bas_succ HAT.out
          rw [if_pos hc] at hbs
          have hmp : (Pn.basics (l.take (k + 1))).map Pn.byte = (Pn.basics (l.take k)).map Pn.byte ++ [Pn.byte cc] := by rw [hbs]; simp
          have HMP := Lib.hid hmp
          have hml : ((Pn.basics (l.take (k + 1))).map Pn.byte).length = m + 1 := by rw [hmp, List.length_append, HM.out]; rfl
          have hs2 : ∀ x ∈ l.take (k + 1), Pn.scalar x = true := by
            intro x hx
            obtain ⟨g1, g2⟩ := List.getElem?_eq_some_iff.1 HAT.out
            rw [List.take_succ_eq_append_getElem g1, g2] at hx
            rcases List.mem_append.1 hx with hx | hx
            · exact HS.out x hx
            · rw [List.mem_singleton.1 hx]; exact HSC.out
          have HEO := Lib.hid (show EnOne w l (k + 1) (.slice A4 (m + 1) c4) w4 from ⟨m + 1, A4, c4, hml, by omega, rfl, by rw [HMP.out]; exact ho4, HP.out, hs2⟩)
          clear ho4 hg4 hc4 hbs hmp hml hs2
          go_wp2
          go_roundw
          case rel => exact ⟨k + 1, by omega, by go_num, HEO.out⟩
          case measure => simp [intOf]; omega
        · go_wp2
          go_roundw
          case rel => exact ⟨k + 1, by omega, by go_num, EnOne.skip ⟨m, A', c', HM.out, hmk, rfl, HO.out, HB.out, HS.out⟩ HAT.out HSC.out (by omega)⟩
          case measure => simp [intOf]; omega
    · have htk : l.take k = l := List.take_of_length_le (by omega)
      have hm := HM.out; have ho := HO.out; have hsc := HS.out
      rw [htk] at hm ho hsc
      rw [List.length_map] at hm
      have HE := Lib.hid (encP_good hl256 hsc)
      have HM := Lib.hid hm; have HO := Lib.hid ho; have HSC := Lib.hid hsc
      have hml : m ≤ 256 := by omega
      clear hm ho hsc htk HS
      go_upto_if 40 with fail
      go_cut [4] (fun vo wx => ∃ A c, vo = .slice A (Pn.sofar l []).length c ∧ wx.ownsRow w.heap.size 5 1 (.slice A (Pn.sofar l []).length c) (Pn.sofar l []).length (bys (Pn.sofar l [])) ∧ Below w.heap.size w wx)
      case first =>
        by_cases h0 : 0 < m
        · have hf : Pn.sofar l [] = (Pn.basics l).map Pn.byte ++ [45] := by rw [Pn.sofar_nil]; unfold Pn.front; rw [if_neg (by have := HM.out; omega)]
          have hfl : (Pn.sofar l []).length = m + 1 := by rw [hf, List.length_append, List.length_map, HM.out]; rfl
          have HF := Lib.hid hf; have HFL := Lib.hid hfl
          clear hf hfl
          go_wp2_with (at_builtin; refine app_byte (by rfl) _ _ rfl (base := w.heap.size) rfl (HO.out.alloc _) rfl (rd_one_u8x (z := wr.heap.size) (b := 45) rfl rfl) (by omega) (by simp <;> omega) ?_)
          intro A4 c4 w4 ho4 hg4 hc4
          have HP := Lib.hid (own_below HO.out HB.out _ hg4 hswr)
          have HO4 := Lib.hid ho4
          clear ho4 hg4 hc4
          go_wp2
          go_meet
          case rel => exact ⟨A4, c4, by rw [HFL.out], by rw [HFL.out, HF.out]; exact HO4.out, HP.out⟩
        · have hf : Pn.sofar l [] = (Pn.basics l).map Pn.byte := by rw [Pn.sofar_nil]; unfold Pn.front; rw [if_pos (by have := HM.out; omega), List.append_nil]
          have hfl : (Pn.sofar l []).length = m := by rw [hf, List.length_map, HM.out]
          have HF := Lib.hid hf; have HFL := Lib.hid hfl
          clear hf hfl
          go_wp2_with fail
          go_meet
          case rel => exact ⟨A', c', by rw [HFL.out], by rw [HFL.out, HF.out]; exact HO.out, HB.out⟩
      case rest =>
        obtain ⟨A1, c1, rfl, ho1, hb1⟩ := hcut
        have hst : ((Pn.st0 l).h : Int) = (m : Int) := by rw [← HM.out]; rfl
        have HST := Lib.hid hst
        have HO1 := Lib.hid ho1; have HB1 := Lib.hid hb1
        clear hst ho1 hb1 HO HB HM
        have hei := Pn.EI.start l
        have HEI := Lib.hid hei; clear hei
        have hrp : ∀ c ∈ l, c ≤ 1114111 := fun c hc => (Pn.scalar_bd (HSC.out c hc)).2
        have HRP := Lib.hid hrp; clear hrp
        go_wp2_with fail
        go_loopw [4, 7, 8, 9, 10, 11] (fun vo vh vf vn vd vb wy => ∃ (st : Pn.St) (n D : Int) (pre : List Int) (A : Option Addr) (c : Nat), Pn.EI l n 0 st D pre ∧ 128 ≤ n ∧ n ≤ 1114112 ∧ vh = .int .i64 (st.h : Int) ∧ vf = .bool st.first ∧ vn = .int .i64 n ∧ vd = .int .i64 D ∧ vb = .int .i64 st.b ∧
            vo = .slice A (Pn.sofar l pre).length c ∧ wy.ownsRow w.heap.size 5 1 (.slice A (Pn.sofar l pre).length c) (Pn.sofar l pre).length (bys (Pn.sofar l pre)) ∧ Below w.heap.size w wy) (fun _ _ _ vn _ _ _ => (1114113 - intOf vn).toNat)
        case atStart => exact ⟨Pn.st0 l, 128, 0, [], A1, c1, HEI.out, by omega, by omega, by rw [HST.out], rfl, rfl, rfl, rfl, rfl, HO1.out, HB1.out⟩
        case round =>
          obtain ⟨st, n, D, pre, A2, c2, hei, n0, n1, rfl, rfl, rfl, rfl, rfl, rfl, ho2, hb2⟩ := hrel
          have hsw2 := hb2.size
          have HO2 := Lib.hid ho2; have HB2 := Lib.hid hb2
          have d0 := hei.d0; have d1 := hei.bound hl256 (by omega)
          have hh0 := hei.hle
          have HE2 := Lib.hid hei
          clear ho2 hb2 hei HO1 HB1 HEI
          by_cases hh : st.h < l.length
          · go_wp2_with fail
            go_loopw [12, 50] (fun vm vi wx => ∃ k : Nat, k ≤ l.length ∧ vi = .int .i64 k ∧ vm = .int .i64 (Pn.mn l n k) ∧ wr = wx) (fun _ vi _ => l.length - (intOf vi).toNat)
            case atStart => exact ⟨0, by omega, rfl, rfl, rfl⟩
            case round =>
              obtain ⟨k, hk, rfl, rfl, rfl⟩ := hrel
              by_cases hlt : k < l.length
              · obtain ⟨b, off, cc, rfl, hb, hat, hcell⟩ := ints_cell (HR.out.below (HB2.out.mono hBw)) hlt
                have hms := Pn.mn_succ (n := n) hat
                generalize Pn.mn l n k = mk at *
                clear hat
                by_cases hc : n ≤ cc
                · rw [if_pos hc] at hms
                  have HMS := Lib.hid hms; clear hms
                  have hmn := @run_min2 Try.prog
                  go_wp2
                  go_roundw
                  case rel => exact ⟨k + 1, by omega, by go_num, by rw [HMS.out], trivial⟩
                  case measure => simp [intOf]; omega
                · rw [if_neg hc] at hms
                  have HMS := Lib.hid hms; clear hms
                  go_wp2
                  go_roundw
                  case rel => exact ⟨k + 1, by omega, by go_num, by rw [HMS.out], trivial⟩
                  case measure => simp [intOf]; omega
              · have hkl : k = l.length := by omega
                subst hkl
                clear hlt hk
                obtain ⟨q, cq, hq, hnq⟩ := HE2.out.some hh
                have hm2 := Pn.mn_le l n l.length q cq (List.getElem?_eq_some_iff.1 hq).1 hq hnq
                have hm3 := HRP.out cq (List.mem_of_getElem? hq)
                have hm1 := (Pn.mn_ge l n n1 l.length).1
                have hm4 : Pn.mn l n l.length ≤ 1114111 := by omega
                have he3 := HE2.out.min (m := Pn.mn l n l.length) (fun q c hq hc => Pn.mn_le l n l.length q c (List.getElem?_eq_some_iff.1 hq).1 hq hc) hm1
                obtain ⟨p0, p1⟩ := HE2.out.step_bound (m := Pn.mn l n l.length) hl256 (by omega) hm1 (by omega)
                have HE3 := Lib.hid he3
                clear hq hnq hm2 hm3 he3
                generalize Pn.mn l n l.length = M at *
                generalize hP : (M - n) * ((st.h : Int) + 1) = P at *
                have HP := Lib.hid hP
                go_wp2_with fail
                go_loopw [4, 7, 8, 10, 11, 71] (fun vo vh vf vd vb vi wx => ∃ (k : Nat) (st' : Pn.St) (D' : Int) (pre' : List Int) (A : Option Addr) (c : Nat), k ≤ l.length ∧ vi = .int .i64 k ∧ Pn.EI l M k st' D' pre' ∧ vh = .int .i64 (st'.h : Int) ∧ vf = .bool st'.first ∧ vd = .int .i64 D' ∧ vb = .int .i64 st'.b ∧
                    vo = .slice A (Pn.sofar l pre').length c ∧ wx.ownsRow w.heap.size 5 1 (.slice A (Pn.sofar l pre').length c) (Pn.sofar l pre').length (bys (Pn.sofar l pre')) ∧ Below w.heap.size w wx) (fun _ _ _ _ _ vi _ => l.length - (intOf vi).toNat)
                case atStart => exact ⟨0, st, D + P, pre, A2, c2, by omega, rfl, HE3.out, rfl, rfl, rfl, rfl, rfl, HO2.out, HB2.out⟩
                case round =>
                  obtain ⟨k, st', D', pre', A3, c3, hk, rfl, he4, rfl, rfl, rfl, rfl, rfl, ho3, hb3⟩ := hrel
                  have hsw3 := hb3.size
                  have HO3 := Lib.hid ho3; have HB3 := Lib.hid hb3
                  have e0 := he4.d0; have e1 := he4.bound hl256 (by omega)
                  have e2 := he4.hle
                  have e3 := he4.b0; have e4 := he4.b1
                  have e5 := he4.prefix_len hl256 HRP.out
                  have e6 := Pn.sofar_len l pre'
                  have HE4 := Lib.hid he4
                  clear ho3 hb3 he4 HO2 HB2 HE2 HE3 HP hP p0 p1 d0 d1 hh0 hh
                  by_cases hlt : k < l.length
                  · obtain ⟨b, off, cc, rfl, hb, hat, hcell⟩ := ints_cell (HR.out.below (HB3.out.mono hBw)) hlt
                    have HAT := Lib.hid hat; clear hat
                    rcases Int.lt_trichotomy cc M with hc | hc | hc
                    · have HE5 := Lib.hid (HE4.out.lt HAT.out hc)
                      go_wp2
                      go_roundw
                      case rel => exact ⟨k + 1, st', D' + 1, pre', A3, c3, by omega, by go_num, HE5.out, rfl, rfl, rfl, rfl, rfl, HO3.out, HB3.out⟩
                      case measure => simp [intOf]; omega
                    · subst hc
                      obtain ⟨st2, he5, q1, q2, q3⟩ := HE4.out.eq HAT.out
                      have HE5 := Lib.hid he5; have HQ1 := Lib.hid q1; have HQ2 := Lib.hid q2; have HQ3 := Lib.hid (show (st2.h : Int) = (st'.h : Int) + 1 by rw [q3]; rfl)
                      clear he5 q1 q2 q3
                      have hap := Pn.sofar_append l pre' (Pn.dig D' st'.b)
                      have HAP := Lib.hid hap; clear hap
                      go_wp2_with fail
                      refine (put_any A3 c3 (Pn.sofar l pre') D' st'.b w.heap.size wr HO3.out hsw3 e0 (by omega) e3 (by omega) (by omega)).mono ?_
                      rw [HAP.out]
                      rintro e w5 ⟨A5, c5, rfl, ho5, hb5⟩
                      have HO5 := Lib.hid ho5
                      have HB5 := Lib.hid (HB3.out.trans hb5)
                      clear ho5 hb5
                      go_wp2_with fail
                      refine (adapt_any D' ((st'.h : Int) + 1) st'.first w5).mono ?_
                      rw [← HQ1.out]
                      rintro e w6 ⟨rfl, hw6⟩
                      subst hw6
                      go_wp2
                      go_roundw
                      case rel => exact ⟨k + 1, st2, 0, _, A5, c5, by omega, by go_num, HE5.out, by rw [HQ3.out], by rw [HQ2.out], rfl, rfl, rfl, HO5.out, HB5.out⟩
                      case measure => simp [intOf]; omega
                    · have HE5 := Lib.hid (HE4.out.gt HAT.out hc)
                      have hne : (cc == M) = false := by rw [beq_eq_false_iff_ne]; omega
                      go_wp2
                      go_roundw
                      case rel => exact ⟨k + 1, st', D', pre', A3, c3, by omega, by go_num, HE5.out, rfl, rfl, rfl, rfl, rfl, HO3.out, HB3.out⟩
                      case measure => simp [intOf]; omega
                  · have hkl : k = l.length := by omega
                    subst hkl
                    have HE5 := Lib.hid HE4.out.next
                    go_wp2
                    go_roundw
                    case rel => exact ⟨st', M + 1, D' + 1, pre', A3, c3, HE5.out, by omega, by omega, rfl, rfl, rfl, rfl, rfl, rfl, HO3.out, HB3.out⟩
                    case measure => simp [intOf]; omega
          · have hdone := HE2.out.done (by omega)
            have hcv := conv_row HO2.out
            have hfin : Pn.sofar l pre = Pn.enc l := by rw [hdone]; rfl
            have HF := Lib.hid hfin
            clear hdone hfin
            go_wp2
            go_ret2
            exact ⟨by rw [HE.out, ← HF.out]; rfl, HB2.out⟩
end Go.Proofs.Ytoihjbiahccaaaa
