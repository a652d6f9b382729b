/- The walk of the law RequestQuote. -/
import Derived.Test.YtgidnkodgdoijaaRrQ
namespace Go.Proofs.Ytgidnkodgdoijaa
open Go Go.RowKit
set_option linter.unusedVariables false

def Rq.qtab : List (List UInt8) := [[37], [52], [70], [34], [97], [37, 52, 49], [37, 71, 48], [32], [37, 52], [122]]
theorem qtab_at (w : World) (m : Nat) (h : m < 10) : (w.alloc (.cells #[.string ⟨#[37]⟩, .string ⟨#[52]⟩, .string ⟨#[70]⟩, .string ⟨#[34]⟩, .string ⟨#[97]⟩, .string ⟨#[37, 52, 49]⟩, .string ⟨#[37, 71, 48]⟩, .string ⟨#[32]⟩, .string ⟨#[37, 52]⟩, .string ⟨#[122]⟩] 9)).cell? ⟨w.heap.size, m, none⟩ = some (.string (str (Rq.qtab.getD m []))) := by
  rw [(Bk.new w 9 #[.string ⟨#[37]⟩, .string ⟨#[52]⟩, .string ⟨#[70]⟩, .string ⟨#[34]⟩, .string ⟨#[97]⟩, .string ⟨#[37, 52, 49]⟩, .string ⟨#[37, 71, 48]⟩, .string ⟨#[32]⟩, .string ⟨#[37, 52]⟩, .string ⟨#[122]⟩]).cell]
  have h10 : m = 0 ∨ m = 1 ∨ m = 2 ∨ m = 3 ∨ m = 4 ∨ m = 5 ∨ m = 6 ∨ m = 7 ∨ m = 8 ∨ m = 9 := by omega
  rcases h10 with rfl | rfl | rfl | rfl | rfl | rfl | rfl | rfl | rfl | rfl <;> rfl
theorem qtab_len (m : Nat) (h : m < 10) : (Rq.qtab.getD m []).length ≤ 3 := by
  have : ∀ i : Fin 10, (Rq.qtab.getD i.val []).length ≤ 3 := by decide
  exact this ⟨m, h⟩
set_option maxRecDepth 100000 in
set_option maxHeartbeats 8000000 in
theorem walk_RequestQuote (a0 a1 : ByteArray) (a2 : Option Addr) (c2 : Nat) (x2 : List Int) (w : World) (w0 : a0.size ≤ maxLen) (u0 : a0.size ≤ 1048576) (w1 : a1.size ≤ maxLen) (u1 : a1.size ≤ 1048576)
    (r2 : Rd w w.heap.size 1 a2 x2.length (intsK .u8 x2)) (m2 : x2.length ≤ maxLen) (f2 : ∀ n ∈ x2, (Lit.int .u8 n).wf = true) (u2 : x2.length ≤ 1048576) :
    Calls Try.prog 4 #[.string a0, .string a1, .slice a2 x2.length c2] w fun e w' => e = .returned (.bool true) ∧ Below w.heap.size w w' := by
  have HR := Lib.hid r2
  have hbd : ∀ n ∈ x2, 0 ≤ n ∧ n ≤ 255 := by
    intro n hn
    have := f2 n hn
    have e1 : IntKind.u8.min = 0 := rfl
    have e2 : IntKind.u8.max = 255 := rfl
    simp only [Lit.wf, e1, e2, Bool.and_eq_true, decide_eq_true_eq] at this
    exact this
  have HBD := Lib.hid hbd
  clear r2 f2 hbd w0 w1 m2
  go_enter Try.func4, Try.ntmps4
  go_wp2_with fail
  go_loopw [7, 8] (fun vt vi wr => ∃ (L : List UInt8) (k : Nat), vt = .string (str L) ∧ vi = .int .i64 k ∧ k ≤ 12 ∧ k ≤ x2.length ∧ L.length ≤ 3 * k ∧ Below w.heap.size w wr) (fun _ vi _ => 40 - (intOf vi).toNat)
  case atStart => exact ⟨[], 0, rfl, rfl, by omega, by omega, by simp, Below.refl _ _⟩
  case round =>
    obtain ⟨L, k, rfl, rfl, hk, hkx, hL, hb⟩ := hrel
    have HB := Lib.hid hb
    have hsw := hb.size
    have HR2 := Lib.hid (HR.out.below hb)
    clear hb
    by_cases hlt : k < x2.length ∧ k < 12
    · obtain ⟨h1, h2⟩ := hlt
      obtain ⟨b, off, u, rfl, hbb, hu, hcell⟩ := HR2.out.at_ h1
      have hx : ∃ x, x2[k]? = some x ∧ u = .int .u8 x := by
        unfold intsK at hu
        rw [List.getElem?_map] at hu
        obtain ⟨x, e1, e2⟩ := Option.map_eq_some_iff.1 hu
        exact ⟨x, e1, e2.symm⟩
      obtain ⟨x, hx1, rfl⟩ := hx
      obtain ⟨b0, b1⟩ := HBD.out x (List.mem_of_getElem? hx1)
      obtain ⟨m, hm⟩ : ∃ m : Nat, x % 10 = (m : Int) := ⟨(x % 10).toNat, by omega⟩
      have hm10 : m < 10 := by omega
      have t1 : x.tmod 10 = (m : Int) := by rw [Int.tmod_eq_emod_of_nonneg b0, hm]
      have t2 : IntKind.u8.wrap (m : Int) = (m : Int) := by rw [IntKind.wrap_u8]; omega
      have hct := qtab_at wr m hm10
      have htl := qtab_len m hm10
      have h1i : (k : Int) < (x2.length : Int) := by omega
      have h2i : (k : Int) < 12 := by omega
      have hbw : b < wr.heap.size := by omega
      clear hu hx1 hm
      generalize Rq.qtab.getD m [] = y at *
      have hs1 : (str L).size = L.length := str_size L
      have hs2 : (str y).size = y.length := str_size y
      have hcat : str L ++ str y = str (L ++ y) := str_append _ _
      have hc2 : L.length + y.length ≤ 9223372036854775807 := by omega
      go_wp2
      go_roundw
      case rel => exact ⟨L ++ y, k + 1, rfl, by go_num, by omega, by omega, by simp; omega, HB.out.alloc hsw _⟩
      case measure => simp [intOf]; omega
    · have hL36 : L.length ≤ 36 := by omega
      have hcond : ¬ ((k : Int) < (x2.length : Int)) ∨ ((k : Int) < (x2.length : Int) ∧ ¬ ((k : Int) < 12)) := by omega
      have HU1 := Lib.hid (unquote_any a1 (by omega)); have HV1 := Lib.hid (runquote_any a1 (by omega))
      have HU2 := Lib.hid (unquote_any (str L) (by rw [str_size]; omega)); have HV2 := Lib.hid (runquote_any (str L) (by rw [str_size]; omega))
      have HQ := Lib.hid (quote_any a0 (by omega)); have HP := Lib.hid (rquote_any a0 (by omega))
      unfold unqVal at HU1 HV1 HU2 HV2
      generalize (Rq.unquote (lst a1)).1 = p1 at *
      generalize (Rq.unquote (lst a1)).2 = o1 at *
      generalize (Rq.unquote (lst (str L))).1 = p2 at *
      generalize (Rq.unquote (lst (str L))).2 = o2 at *
      generalize Rq.quote (lst a0) = qq at *
      have e1 : ((str p1).toList == (str p1).toList) = true := by simp
      have e2 : ((str p2).toList == (str p2).toList) = true := by simp
      have e3 : ((str qq).toList == (str qq).toList) = true := by simp
      have e4 : (o1 == o1) = true := by simp
      have e5 : (o2 == o2) = true := by simp
      clear hlt HR2
      rcases hcond with hc | ⟨hc', hc⟩
      all_goals
        go_wp2_with fail
        refine (HU1.out _).mono ?_
        rintro e w2 ⟨rfl, hb2⟩
        have HB2 := Lib.hid (HB.out.trans (hb2.mono hsw)); have hsz2 := HB2.out.size
        clear hb2
        go_wp2_with fail
        refine (HV1.out _).mono ?_
        rintro e w3 ⟨rfl, hb3⟩
        have HB3 := Lib.hid (HB2.out.trans (hb3.mono hsz2)); have hsz3 := HB3.out.size
        clear hb3
        go_wp2_with fail
        refine (HU2.out _).mono ?_
        rintro e w4 ⟨rfl, hb4⟩
        have HB4 := Lib.hid (HB3.out.trans (hb4.mono hsz3)); have hsz4 := HB4.out.size
        clear hb4
        go_wp2_with fail
        refine (HV2.out _).mono ?_
        rintro e w5 ⟨rfl, hb5⟩
        have HB5 := Lib.hid (HB4.out.trans (hb5.mono hsz4)); have hsz5 := HB5.out.size
        clear hb5
        go_wp2_with fail
        refine (awake27_any _).mono ?_
        rintro e w6 ⟨rfl, hb6⟩
        have HB6 := Lib.hid (HB5.out.trans (hb6.mono hsz5)); have hsz6 := HB6.out.size
        clear hb6
        go_wp2_with fail
        refine (HQ.out _).mono ?_
        rintro e w7 ⟨rfl, hb7⟩
        have HB7 := Lib.hid (HB6.out.trans (hb7.mono hsz6)); have hsz7 := HB7.out.size
        clear hb7
        go_wp2_with fail
        refine (HP.out _).mono ?_
        rintro e w8 ⟨rfl, hb8⟩
        have HB8 := Lib.hid (HB7.out.trans (hb8.mono hsz7))
        clear hb8
        go_wp2
        go_ret
        exact ⟨rfl, HB8.out⟩
end Go.Proofs.Ytgidnkodgdoijaa
