/- The walk of the law AlabelBack. -/
import Derived.Test.YtoihjbiahccaaaaAlBkM
import Derived.Test.YtoihjbiahccaaaaSamK
namespace Go.Proofs.Ytoihjbiahccaaaa
open Go Go.RowKit
set_option linter.unusedVariables false

set_option maxHeartbeats 8000000 in
theorem walk_AlabelBack (a0 : Option Addr) (c0 : Nat) (x0 : List Int) (w : World) (r0 : Rd w w.heap.size 1 a0 x0.length (ints x0)) (m0 : x0.length ≤ maxLen) (f0 : ∀ n ∈ x0, (Lit.int .i64 n).wf = true) :
    Calls Try.prog 12 #[.slice a0 x0.length c0] w fun e w' => e = .returned (.bool true) ∧ Below w.heap.size w w' := by
  have HR := Lib.hid r0; have HL := Lib.hid m0
  clear r0 m0 f0
  go_enter Try.func12, Try.ntmps12
  go_wp2_with fail
  refine (words_any a0 c0 x0 w HR.out HL.out).mono ?_
  rintro e w1 ⟨p, A1, c1, rfl, ho1, hb1, hp1, hp6, hall⟩
  have HR1 := Lib.hid (Rd.of_own ho1); have HB1 := Lib.hid hb1
  have hsz1 := hb1.size
  have hback := Al.back (p := p) (List.all_eq_true.2 (fun u hu => (wt_ok u (hall u hu)).1)) (fun u hu => (wt_ok u (hall u hu)).2) (by omega) (by omega)
  clear ho1 hb1 hall HR HL
  have hla := label_any A1 c1 p w1.heap.size w1 HR1.out (Nat.le_refl _) (by omega)
  rcases hback with hl | ⟨L, hl, hpt, hL1, hL63⟩
  · rw [hl] at hla
    have HLA := Lib.hid hla; clear hla hl
    have hpt := fun w => pts_any (str ([] : List UInt8)) (by rw [str_size]; simp) w
    rw [lst_str] at hpt
    have HPT := Lib.hid hpt; clear hpt
    go_wp2_with fail
    refine HLA.out.mono ?_
    rintro e w2 ⟨rfl, hb2⟩
    have HB2 := Lib.hid (HB1.out.trans (hb2.mono hsz1)); have hsz2 := HB2.out.size
    clear hb2
    go_wp2_with fail
    refine (HPT.out _).mono ?_
    rintro e w3 ⟨A3, c3, rfl, _, hb3⟩
    have HB3 := Lib.hid (HB2.out.trans (hb3.mono hsz2)); have hsz3 := HB3.out.size
    clear hb3
    have hnil : Al.pts [] = ([], 10) := by decide +kernel
    rw [hnil]
    clear hnil
    go_wp2_with fail
    refine (awake11_any _).mono ?_
    rintro e w4 ⟨rfl, hb4⟩
    have HB4 := Lib.hid (HB3.out.trans (hb4.mono hsz3))
    clear hb4
    go_wp2
    go_ret
    exact ⟨congrArg (fun z => Ending.returned (.bool z)) (show (str ([] : List UInt8)).toList.isEmpty = true by rw [size_empty]; rfl), HB4.out⟩
  · rw [hl] at hla
    have HLA := Lib.hid hla; clear hla hl
    have hpts := fun w => pts_any (str L) (by rw [str_size]; omega) w
    rw [lst_str, hpt] at hpts
    have HPT := Lib.hid hpts; clear hpts hpt
    have hLs : (str L).size = L.length := str_size L
    have hi1 : (1 : Int) ≤ (L.length : Int) := by omega
    have hi2 : (L.length : Int) ≤ 63 := by omega
    go_wp2_with fail
    refine HLA.out.mono ?_
    rintro e w2 ⟨rfl, hb2⟩
    have HR2 := Lib.hid (HR1.out.below hb2)
    have HB12 := Lib.hid hb2
    have hsz12 := hb2.size
    have HB2 := Lib.hid (HB1.out.trans (hb2.mono hsz1)); have hsz2 := HB2.out.size
    clear hb2
    go_wp2_with fail
    refine (HPT.out _).mono ?_
    rintro e w3 ⟨A3, c3, rfl, ho3, hb3⟩
    have HR3 := Lib.hid (HR2.out.below (hb3.mono hsz12))
    have HO3 := Lib.hid (Rd.of_own ho3)
    have hsz23 := hb3.size
    have HB3 := Lib.hid (HB2.out.trans (hb3.mono hsz2)); have hsz3 := HB3.out.size
    clear hb3 ho3
    go_wp2_with fail
    refine (awake11_any _).mono ?_
    rintro e w4 ⟨rfl, hb4⟩
    have HR4 := Lib.hid (HR3.out.below (hb4.mono (show w1.heap.size ≤ w3.heap.size by omega)))
    have HO4 := Lib.hid (HO3.out.below hb4)
    have HB4 := Lib.hid (HB3.out.trans (hb4.mono hsz3))
    clear hb4
    go_wp2_with fail
    refine (same_ok A3 A1 p.length p.length c3 c1 p p w3.heap.size w4 HO4.out (Rd.more HR4.out (by omega)) (by unfold maxLen; omega) (by unfold maxLen; omega) rfl).mono ?_
    rintro e w5 ⟨rfl, q5, rfl⟩
    go_wp2
    go_ret
    exact ⟨rfl, below_drewN HB4.out _⟩
end Go.Proofs.Ytoihjbiahccaaaa
