/- The walk of the law RequestParse. -/
import Derived.Test.YtgidnkodgdoijaaRqX
import Derived.Test.YtgidnkodgdoijaaRrP
namespace Go.Proofs.Ytgidnkodgdoijaa
open Go Go.RowKit
set_option linter.unusedVariables false

set_option maxHeartbeats 4000000 in
theorem parses_any (s : ByteArray) (w : World) : Calls Try.prog 7 #[.string s] w fun e w' => e = .returned (.bool true) ∧ Below w.heap.size w w' := by
  have HP := Lib.hid (parse_any s); have HR := Lib.hid (rparse_any s)
  generalize Rq.parse (lst s) = r at *
  obtain ⟨op, ttl, ns, er⟩ := r
  go_enter Try.func7, Try.ntmps7
  go_wp2_with fail
  refine (HP.out _).mono ?_
  rintro e w1 ⟨A1, n1, c1, rfl, hn1, ho1, hb1⟩
  have hm1 := own_len ho1
  have HR1 := Lib.hid (Rd.of_own ho1); have HB1 := Lib.hid hb1; have hsz1 := hb1.size; have HN1 := Lib.hid hn1
  clear ho1 hb1 hn1
  unfold reqAgg
  simp only at *
  go_wp2_with fail
  refine (HR.out _).mono ?_
  rintro e w2 ⟨A2, n2, c2, rfl, hn2, ho2, hb2⟩
  have hn12 : n2 = n1 := hn2.symm.trans HN1.out
  subst hn12
  have hsz2 := hb2.size
  have hg1 : w1.heap.size < w2.heap.size := by simp at hsz2; omega
  have HK := Lib.hid ((Bk.new w1 32 #[.int .i64 op, .int .i64 ttl, .slice A1 n2 c1]).below hb2 (by simp))
  have HR1' := Lib.hid ((HR1.out.alloc (Nat.le_refl _) (.cells #[.int .i64 op, .int .i64 ttl, .slice A1 n2 c1] 32)).below (hb2.mono (by simp)))
  have HR2 := Lib.hid (Rd.of_own ho2)
  have HB2 := Lib.hid ((HB1.out.alloc hsz1 (.cells #[.int .i64 op, .int .i64 ttl, .slice A1 n2 c1] 32)).trans (hb2.mono (by simp; omega)))
  have k0 : w2.cell? ⟨w1.heap.size, 0, none⟩ = some (.int .i64 op) := HK.out.cell 0
  have k1 : w2.cell? ⟨w1.heap.size, 1, none⟩ = some (.int .i64 ttl) := HK.out.cell 1
  have k2 : w2.cell? ⟨w1.heap.size, 2, none⟩ = some (.slice A1 n2 c1) := HK.out.cell 2
  clear hn2 ho2 hb2 hsz2
  unfold reqAgg
  go_wp2_with fail
  refine (samereq_ok op ttl A1 A2 n2 c1 c2 (ns.map str) w2.heap.size _ ((HR1'.out.more (by omega)).alloc (Nat.le_refl _) _) (HR2.out.alloc (Nat.le_refl _) _) (by simp) hm1).mono ?_
  rintro e w3 ⟨rfl, hb3⟩
  have HB3 := Lib.hid ((HB2.out.alloc (by omega) (.cells #[.int .i64 op, .int .i64 ttl, .slice A2 n2 c2] 32)).trans (hb3.mono (by simp; omega)))
  clear hb3
  go_wp2
  go_ret
  exact ⟨rfl, HB3.out⟩
def Rq.tab : List (List UInt8) := [[72, 79, 76, 68], [67, 79, 78, 70, 73, 82, 77], [82, 69, 78, 69, 87], [67, 65, 78, 67, 69, 76], [82, 69, 76, 69, 65, 83, 69], [80, 85, 82, 71, 69], [81, 85, 69, 82, 89], [49, 48], [48], [49, 48, 55, 51, 55, 52, 49, 56, 50, 52], [49, 48, 55, 51, 55, 52, 49, 56, 50, 53], [49, 50, 51, 52, 53, 54, 55, 56, 57, 48, 49], [97], [37, 52, 49], [37, 99, 51], [34, 34], [34], [98, 37], [], [104, 111, 108, 100]]
def tabCells : Array Value := #[.string ⟨#[72, 79, 76, 68]⟩, .string ⟨#[67, 79, 78, 70, 73, 82, 77]⟩, .string ⟨#[82, 69, 78, 69, 87]⟩, .string ⟨#[67, 65, 78, 67, 69, 76]⟩, .string ⟨#[82, 69, 76, 69, 65, 83, 69]⟩, .string ⟨#[80, 85, 82, 71, 69]⟩, .string ⟨#[81, 85, 69, 82, 89]⟩, .string ⟨#[49, 48]⟩, .string ⟨#[48]⟩, .string ⟨#[49, 48, 55, 51, 55, 52, 49, 56, 50, 52]⟩, .string ⟨#[49, 48, 55, 51, 55, 52, 49, 56, 50, 53]⟩, .string ⟨#[49, 50, 51, 52, 53, 54, 55, 56, 57, 48, 49]⟩, .string ⟨#[97]⟩, .string ⟨#[37, 52, 49]⟩, .string ⟨#[37, 99, 51]⟩, .string ⟨#[34, 34]⟩, .string ⟨#[34]⟩, .string ⟨#[98, 37]⟩, .string ⟨#[]⟩, .string ⟨#[104, 111, 108, 100]⟩]
theorem tab_at (m : Nat) (h : m < 20) : tabCells[m]? = some (.string (str (Rq.tab.getD m []))) := by
  have : ∀ i : Fin 20, tabCells[i.val]? = some (.string (str (Rq.tab.getD i.val []))) := fun i => by
    rcases i with ⟨i, hi⟩
    have h20 : i = 0 ∨ i = 1 ∨ i = 2 ∨ i = 3 ∨ i = 4 ∨ i = 5 ∨ i = 6 ∨ i = 7 ∨ i = 8 ∨ i = 9 ∨ i = 10 ∨ i = 11 ∨ i = 12 ∨ i = 13 ∨ i = 14 ∨ i = 15 ∨ i = 16 ∨ i = 17 ∨ i = 18 ∨ i = 19 := by omega
    rcases h20 with rfl | rfl | rfl | rfl | rfl | rfl | rfl | rfl | rfl | rfl | rfl | rfl | rfl | rfl | rfl | rfl | rfl | rfl | rfl | rfl <;> rfl
  exact this ⟨m, h⟩
theorem tab_len (m : Nat) (h : m < 20) : (Rq.tab.getD m []).length ≤ 11 := by
  have : ∀ i : Fin 20, (Rq.tab.getD i.val []).length ≤ 11 := by decide
  exact this ⟨m, h⟩
set_option maxRecDepth 100000 in
set_option maxHeartbeats 8000000 in
theorem walk_RequestParse (a0 : ByteArray) (a1 : Option Addr) (c1 : Nat) (x1 : List Int) (w : World) (w0 : a0.size ≤ maxLen) (z0 : a0.size ≤ reachBytes) (r1 : Rd w w.heap.size 1 a1 x1.length (intsK .u8 x1)) (m1 : x1.length ≤ maxLen) (f1 : ∀ n ∈ x1, (Lit.int .u8 n).wf = true)
    (q1 : x1.length * 1 ≤ reachBytes ∧ x1.length ≤ c1) :
    Calls Try.prog 3 #[.string a0, .slice a1 x1.length c1] w fun e w' => e = .returned (.bool true) ∧ Below w.heap.size w w' := by
  have hz0 : a0.size ≤ 140737488355328 := by have := reachBytes_lt; omega
  have HR := Lib.hid r1
  have hbd : ∀ n ∈ x1, 0 ≤ n ∧ n ≤ 255 := by
    intro n hn
    have := f1 n hn
    have e1 : IntKind.u8.min = 0 := rfl
    have e2 : IntKind.u8.max = 255 := rfl
    simp only [Lit.wf, e1, e2, Bool.and_eq_true, decide_eq_true_eq] at this
    exact this
  have HBD := Lib.hid hbd
  unfold maxLen at m1
  clear r1 f1 hbd q1 w0 z0
  go_enter Try.func3, Try.ntmps3
  go_wp2_with fail
  go_loopw [6, 7] (fun vt vi wr => ∃ (L : List UInt8) (k : Nat), vt = .string (str L) ∧ vi = .int .i64 k ∧ k ≤ 6 ∧ k ≤ x1.length ∧ L.length ≤ 12 * k ∧ Bk wr w.heap.size 9 tabCells ∧ Below w.heap.size w wr) (fun _ vi _ => 40 - (intOf vi).toNat)
  case atStart => exact ⟨[], 0, rfl, rfl, by omega, by omega, by simp, Bk.new w 9 tabCells, (Below.refl _ _).alloc (Nat.le_refl _) _⟩
  case round =>
    obtain ⟨L, k, rfl, rfl, hk, hkx, hL, hbk, hb⟩ := hrel
    have HBK := Lib.hid hbk; have HB := Lib.hid hb
    have hsw := hb.size
    have HR2 := Lib.hid (HR.out.below hb)
    clear hbk hb
    by_cases hlt : k < x1.length ∧ k < 6
    · obtain ⟨h1, h2⟩ := hlt
      obtain ⟨b, off, u, rfl, hbb, hu, hcell⟩ := HR2.out.at_ h1
      have hx : ∃ x, x1[k]? = some x ∧ u = .int .u8 x := by
        unfold intsK at hu
        rw [List.getElem?_map] at hu
        obtain ⟨x, e1, e2⟩ := Option.map_eq_some_iff.1 hu
        exact ⟨x, e1, e2.symm⟩
      obtain ⟨x, hx1, rfl⟩ := hx
      obtain ⟨b0, b1⟩ := HBD.out x (List.mem_of_getElem? hx1)
      obtain ⟨m, hm⟩ : ∃ m : Nat, x % 20 = (m : Int) := ⟨(x % 20).toNat, by omega⟩
      have hm20 : m < 20 := by omega
      have t1 : x.tmod 20 = (m : Int) := by rw [Int.tmod_eq_emod_of_nonneg b0, hm]
      have t2 : IntKind.u8.wrap (m : Int) = (m : Int) := by rw [IntKind.wrap_u8]; omega
      have hct : wr.cell? ⟨w.heap.size, m, none⟩ = some (.string (str (Rq.tab.getD m []))) := (HBK.out.cell m).trans (tab_at m hm20)
      have htl := tab_len m hm20
      have h1i : (k : Int) < (x1.length : Int) := by omega
      have h2i : (k : Int) < 6 := by omega
      clear hu hx1 hm
      generalize Rq.tab.getD m [] = y at *
      have hs1 : (str L).size = L.length := str_size L
      have hs2 : (str y).size = y.length := str_size y
      by_cases hk0 : k = 0
      · have hk0' : ¬ (0 : Int) < (k : Int) := by omega
        have HK0 := Lib.hid hk0
        clear hk0
        have hcat : str L ++ str y = str (L ++ y) := str_append _ _
        have hc2 : L.length + y.length ≤ 9223372036854775807 := by omega
        go_wp2
        go_roundw
        case rel => exact ⟨L ++ y, k + 1, rfl, by go_num, by omega, by omega, by simp; omega, HBK.out, HB.out⟩
        case measure => simp [intOf]; omega
      · have hsp : str L ++ (⟨#[32]⟩ : ByteArray) = str (L ++ [32]) := str_append L [32]
        have hsp1 : (⟨#[32]⟩ : ByteArray).size = 1 := rfl
        have hs3 : (str (L ++ [32])).size = L.length + 1 := by rw [str_size]; simp
        have hcat : str (L ++ [32]) ++ str y = str (L ++ [32] ++ y) := str_append _ _
        have hc1 : L.length + 1 ≤ 9223372036854775807 := by omega
        have hc2 : L.length + 1 + y.length ≤ 9223372036854775807 := by omega
        go_wp2
        go_roundw
        case rel => exact ⟨L ++ [32] ++ y, k + 1, by simp, by go_num, by omega, by omega, by simp; omega, HBK.out, HB.out⟩
        case measure => simp [intOf]; omega
    · have hL72 : L.length ≤ 72 := by omega
      have hs1 : (str L).size = L.length := str_size L
      have hcond : ¬ ((k : Int) < (x1.length : Int)) ∨ ((k : Int) < (x1.length : Int) ∧ ¬ ((k : Int) < 6)) := by omega
      have hz1 : 7 + a0.size ≤ 9223372036854775807 := by omega
      have hq1 : 6 + L.length ≤ 9223372036854775807 := by omega
      have hh1 : (⟨#[72, 79, 76, 68, 32, 53, 32]⟩ : ByteArray).size = 7 := rfl
      have hh2 : (⟨#[81, 85, 69, 82, 89, 32]⟩ : ByteArray).size = 6 := rfl
      clear hlt HR2
      rcases hcond with hc | ⟨hc', hc⟩
      all_goals
        go_wp2_with fail
        refine (awake27_any _).mono ?_
        rintro e w2 ⟨rfl, hb2⟩
        have HB2 := Lib.hid (HB.out.trans (hb2.mono hsw)); have hsz2 := HB2.out.size
        clear hb2
        go_wp2_with fail
        refine (parses_any _ _).mono ?_
        rintro e w3 ⟨rfl, hb3⟩
        have HB3 := Lib.hid (HB2.out.trans (hb3.mono hsz2)); have hsz3 := HB3.out.size
        clear hb3
        go_wp2_with fail
        refine (parses_any _ _).mono ?_
        rintro e w4 ⟨rfl, hb4⟩
        have HB4 := Lib.hid (HB3.out.trans (hb4.mono hsz3)); have hsz4 := HB4.out.size
        clear hb4
        go_wp2_with fail
        refine (parses_any _ _).mono ?_
        rintro e w5 ⟨rfl, hb5⟩
        have HB5 := Lib.hid (HB4.out.trans (hb5.mono hsz4)); have hsz5 := HB5.out.size
        clear hb5
        go_wp2_with fail
        refine (parses_any _ _).mono ?_
        rintro e w6 ⟨rfl, hb6⟩
        have HB6 := Lib.hid (HB5.out.trans (hb6.mono hsz5))
        clear hb6
        go_wp2
        go_ret
        exact ⟨rfl, HB6.out⟩
end Go.Proofs.Ytgidnkodgdoijaa
