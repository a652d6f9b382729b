/- The walks of the laws PunyBack and PunyEncode. -/
import Derived.Test.YtoihjbiahccaaaaPtN
import Derived.Test.YtoihjbiahccaaaaSamK
import Derived.Test.YtoihjbiahccaaaaReEn
namespace Go.Proofs.Ytoihjbiahccaaaa
open Go Go.RowKit
set_option linter.unusedVariables false

theorem Pn.enc_small {l : List Int} (h : l.length ≤ 11) (hs : ∀ c ∈ l, Pn.scalar c = true) : (Pn.enc l).length ≤ 122 := by
  have := Pn.enc_len l (fun c hc => (Pn.scalar_bd (hs c hc)).2) (by omega)
  omega
set_option maxHeartbeats 8000000 in
theorem walk_PunyBack (a0 : Option Addr) (c0 : Nat) (x0 : List Int) (w : World) (r0 : Rd w w.heap.size 1 a0 x0.length (ints x0)) (m0 : x0.length ≤ maxLen) (f0 : ∀ n ∈ x0, (Lit.int .i64 n).wf = true) :
    Calls Try.prog 6 #[.slice a0 x0.length c0] w fun e w' => e = .returned (.bool true) ∧ Below w.heap.size w w' := by
  have HR := Lib.hid r0; have HL := Lib.hid m0
  have hp1 := Pn.lp_len x0; have hp2 := Pn.lp_scalar x0
  have hes := Pn.enc_small hp1 hp2
  have henc := encP_good (l := Pn.lp x0) (by omega) hp2
  have hdec := Pn.decP_back (Pn.lp x0) (List.all_eq_true.2 hp2) (by omega) (by omega)
  have hpt := points_any a0 c0 x0 w r0 m0
  have HPT := Lib.hid hpt
  have HE := Lib.hid henc
  have hdd := fun w => decode_any (str (Pn.enc (Pn.lp x0))) (by rw [str_size]; omega) w
  rw [lst_str, hdec] at hdd
  have HDD := Lib.hid hdd
  clear r0 m0 f0 hp2 henc hdec hpt hdd hes
  generalize Pn.lp x0 = p at *
  go_enter Try.func6, Try.ntmps6
  go_wp2_with fail
  refine HPT.out.mono ?_
  rintro e w1 ⟨A1, c1, rfl, ho1, hb1⟩
  have HR1 := Lib.hid (Rd.of_own ho1); have HB1 := Lib.hid hb1
  have hsz1 := hb1.size
  clear ho1 hb1
  go_wp2_with fail
  have hct := encode_any A1 c1 p w1.heap.size w1 HR1.out (Nat.le_refl _) (by omega)
  rw [HE.out] at hct
  refine hct.mono ?_
  clear hct
  rintro e w2 ⟨rfl, hb2⟩
  have HR2 := Lib.hid (HR1.out.below hb2)
  have hsz12 := hb2.size
  have HB2 := Lib.hid (HB1.out.trans (hb2.mono hsz1)); have hsz2 := HB2.out.size
  clear hb2
  go_wp2_with fail
  refine (HDD.out _).mono ?_
  rintro e w3 ⟨A3, c3, rfl, ho3, hb3⟩
  have HR3 := Lib.hid (HR2.out.below (hb3.mono hsz12))
  have HO3 := Lib.hid (Rd.of_own ho3)
  have hsz23 := hb3.size
  have HB3 := Lib.hid (HB2.out.trans (hb3.mono hsz2)); have hsz3 := HB3.out.size
  clear hb3 ho3
  go_wp2_with fail
  refine (awake10_any _).mono ?_
  rintro e w4 ⟨rfl, hb4⟩
  have HR4 := Lib.hid (HR3.out.below (hb4.mono (show w1.heap.size ≤ w3.heap.size by omega)))
  have HO4 := Lib.hid (HO3.out.below hb4)
  have HB4 := Lib.hid (HB3.out.trans (hb4.mono hsz3))
  clear hb4
  go_wp2_with fail
  refine (same_ok A3 A1 p.length p.length c3 c1 p p w3.heap.size w4 HO4.out (Rd.more HR4.out (by omega)) (by unfold maxLen; omega) (by unfold maxLen; omega) rfl).mono ?_
  rintro e w5 ⟨rfl, q5, rfl⟩
  go_wp2
  go_ret
  exact ⟨rfl, below_drewN HB4.out _⟩
set_option maxHeartbeats 8000000 in
theorem walk_PunyEncode (a0 : Option Addr) (c0 : Nat) (x0 : List Int) (a1 : Option Addr) (c1 : Nat) (x1 : List Int) (w : World) (r0 : Rd w w.heap.size 1 a0 x0.length (ints x0)) (m0 : x0.length ≤ maxLen) (f0 : ∀ n ∈ x0, (Lit.int .i64 n).wf = true)
    (q0 : x0.length * 8 ≤ reachBytes ∧ x0.length ≤ c0) (r1 : Rd w w.heap.size 1 a1 x1.length (ints x1)) (m1 : x1.length ≤ maxLen) (f1 : ∀ n ∈ x1, (Lit.int .i64 n).wf = true) (q1 : x1.length * 8 ≤ reachBytes ∧ x1.length ≤ c1) :
    Calls Try.prog 3 #[.slice a0 x0.length c0, .slice a1 x1.length c1] w fun e w' => e = .returned (.bool true) ∧ Below w.heap.size w w' := by
  have hx0 : x0.length ≤ 17592186044000 := by have := q0.1; unfold reachBytes at this; omega
  have HR0 := Lib.hid r0
  have hp1 := Pn.lp_len x1
  have HPT := Lib.hid (fun (w' : World) (hb : Below w.heap.size w w') => points_any a1 c1 x1 w' (Rd.more (r1.below hb) hb.size) m1)
  clear r0 m0 f0 q0 r1 m1 f1 q1
  generalize Pn.lp x1 = p at *
  go_enter Try.func3, Try.ntmps3
  go_wp2_with fail
  refine (encode_any a0 c0 x0 w.heap.size w HR0.out (Nat.le_refl _) (by omega)).mono ?_
  rintro e w1 ⟨rfl, hb1⟩
  have HB1 := Lib.hid hb1; have hsz1 := hb1.size
  have HR1 := Lib.hid (HR0.out.below hb1)
  clear hb1
  go_wp2_with fail
  refine (rencode_any a0 c0 x0 w.heap.size w1 HR1.out hsz1 (by omega)).mono ?_
  rintro e w2 ⟨rfl, hb2⟩
  have HB2 := Lib.hid (HB1.out.trans (hb2.mono hsz1)); have hsz2 := HB2.out.size
  clear hb2
  generalize (Pn.encP x0).1 = M0 at *
  generalize (Pn.encP x0).2 = f0 at *
  go_wp2_with fail
  refine (HPT.out w2 HB2.out).mono ?_
  rintro e w3 ⟨A3, c3, rfl, ho3, hb3⟩
  have HR3 := Lib.hid (Rd.of_own ho3)
  have HB3 := Lib.hid (HB2.out.trans (hb3.mono hsz2)); have hsz3 := HB3.out.size
  clear ho3 hb3
  go_wp2_with fail
  refine (encode_any A3 c3 p w3.heap.size w3 HR3.out (Nat.le_refl _) (by omega)).mono ?_
  rintro e w4 ⟨rfl, hb4⟩
  have HB4 := Lib.hid (HB3.out.trans (hb4.mono hsz3)); have hsz4 := HB4.out.size
  clear hb4
  go_wp2_with fail
  refine (HPT.out w4 HB4.out).mono ?_
  rintro e w5 ⟨A5, c5, rfl, ho5, hb5⟩
  have HR5 := Lib.hid (Rd.of_own ho5)
  have HB5 := Lib.hid (HB4.out.trans (hb5.mono hsz4)); have hsz5 := HB5.out.size
  clear ho5 hb5
  go_wp2_with fail
  refine (rencode_any A5 c5 p w5.heap.size w5 HR5.out (Nat.le_refl _) (by omega)).mono ?_
  rintro e w6 ⟨rfl, hb6⟩
  have HB6 := Lib.hid (HB5.out.trans (hb6.mono hsz5)); have hsz6 := HB6.out.size
  clear hb6
  generalize (Pn.encP p).1 = M1 at *
  generalize (Pn.encP p).2 = f1 at *
  go_wp2_with fail
  refine (awake10_any _).mono ?_
  rintro e w7 ⟨rfl, hb7⟩
  have HB7 := Lib.hid (HB6.out.trans (hb7.mono hsz6))
  clear hb7
  go_wp2
  go_ret
  exact ⟨rfl, HB7.out⟩
end Go.Proofs.Ytoihjbiahccaaaa
