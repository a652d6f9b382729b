/- The walks of the law's example, of the points of the laws on Punycode, and of the law PunyAdapt. -/
import Derived.Test.YtoihjbiahccaaaaPnDc
import Derived.Test.YtoihjbiahccaaaaSrcN
namespace Go.Proofs.Ytoihjbiahccaaaa
open Go Go.RowKit
set_option linter.unusedVariables false

theorem rd_lit {w : World} {e : TypeId} {xs : List Int} {n : Nat} (cs : Array Value) (hc : cs.toList = ints xs) (hn : xs.length = n) : Rd (w.alloc (.cells cs e)) (w.heap.size + 1) 1 (some ⟨w.heap.size, 0, none⟩) n (ints xs) := by
  subst hn
  refine ⟨by rw [ints_length]; omega, fun _ => ⟨w.heap.size, 0, rfl, by omega, fun j u hu => ?_⟩⟩
  rw [(Bk.new w e cs).cell, Nat.zero_add, ← Array.getElem?_toList, hc]
  exact hu
set_option maxHeartbeats 4000000 in
theorem awake10_any (w : World) : Calls Try.prog 19 #[] w fun e w' => e = .returned (.bool true) ∧ Below w.heap.size w w' := by
  have hL := rd_lit (w := w) (e := 3) (xs := [98, 252, 99, 104, 101, 114]) (n := 6) #[.int .i64 98, .int .i64 252, .int .i64 99, .int .i64 104, .int .i64 101, .int .i64 114] rfl rfl
  have e1 : Pn.encP [98, 252, 99, 104, 101, 114] = ([98, 99, 104, 101, 114, 45, 107, 118, 97], 0) := by decide +kernel
  have e2 : Pn.decP [45] = ([], 12) := by decide +kernel
  have e3 : Pn.decP [] = ([], 0) := by decide +kernel
  have e4 : Pn.adapt 0 1 true = 0 := by decide +kernel
  have HL := Lib.hid hL; have HE1 := Lib.hid e1; have HE2 := Lib.hid e2; have HE3 := Lib.hid e3; have HE4 := Lib.hid e4
  have HB := Lib.hid ((Below.refl w.heap.size w).alloc (Nat.le_refl _) (.cells #[.int .i64 98, .int .i64 252, .int .i64 99, .int .i64 104, .int .i64 101, .int .i64 114] 3))
  clear hL e1 e2 e3 e4
  go_enter Try.func19, Try.ntmps19
  go_wp2_with fail
  have hct := encode_any (some ⟨w.heap.size, 0, none⟩) 6 [98, 252, 99, 104, 101, 114] (w.heap.size + 1) _ HL.out (by simp) (by simp)
  rw [HE1.out] at hct
  refine hct.mono ?_
  clear hct
  rintro e w1 ⟨rfl, hb⟩
  have hsz1 : w.heap.size ≤ w1.heap.size := by have := hb.size; simp at this; omega
  replace HB := Lib.hid (HB.out.trans (hb.mono (by simp)))
  clear hb
  have hstr : str [98, 99, 104, 101, 114, 45, 107, 118, 97] = (⟨#[98, 99, 104, 101, 114, 45, 107, 118, 97]⟩ : ByteArray) := rfl
  rw [hstr]
  clear hstr
  go_wp2_with fail
  have hct := decode_any (⟨#[45]⟩ : ByteArray) (by decide) w1
  rw [show lst (⟨#[45]⟩ : ByteArray) = [45] from rfl, HE2.out] at hct
  refine hct.mono ?_
  clear hct
  rintro e w2 ⟨A2, c2, rfl, _, hb⟩
  have hsz2 := hb.size
  replace HB := Lib.hid (HB.out.trans (hb.mono hsz1))
  clear hb
  go_wp2_with fail
  have hct := decode_any (⟨#[]⟩ : ByteArray) (by decide) w2
  rw [show lst (⟨#[]⟩ : ByteArray) = [] from rfl, HE3.out] at hct
  refine hct.mono ?_
  clear hct
  rintro e w3 ⟨A3, c3, rfl, _, hb⟩
  have hsz3 := hb.size
  replace HB := Lib.hid (HB.out.trans (hb.mono (by omega)))
  clear hb
  go_wp2_with fail
  have hct := adapt_any 0 1 true w3
  rw [HE4.out] at hct
  refine hct.mono ?_
  clear hct
  rintro e w4 ⟨rfl, hw4⟩
  subst hw4
  go_wp2
  go_ret
  exact ⟨rfl, HB.out⟩
set_option maxHeartbeats 4000000 in
theorem walk_PunyAdapt (a0 a1 : Int) (a2 : Bool) (a3 : Int) (w : World) (w0 : (Lit.int .i64 a0).wf = true) (w1 : (Lit.int .i64 a1).wf = true) (w3 : (Lit.int .i64 a3).wf = true) :
    Calls Try.prog 5 #[.int .i64 a0, .int .i64 a1, .bool a2, .int .i64 a3] w fun e w' => e = .returned (.bool true) ∧ Below w.heap.size w w' := by
  clear w0 w1 w3
  go_enter Try.func5, Try.ntmps5
  go_wp2_with fail
  refine (pick_any a3 64 (by omega) (by omega) _).mono ?_
  rintro e w9 ⟨rfl, hpw⟩
  subst hpw
  have p0 := Kp.pick_lo a3 64 (by omega)
  have p1 := Kp.pick_hi a3 64 (by omega)
  generalize Kp.pick a3 64 = p at *
  go_wp2_with fail
  refine (pick_any a1 300 (by omega) (by omega) _).mono ?_
  rintro e w9 ⟨rfl, hpw⟩
  subst hpw
  have q0 := Kp.pick_lo a1 300 (by omega)
  have q1 := Kp.pick_hi a1 300 (by omega)
  generalize Kp.pick a1 300 = q at *
  go_wp2_with fail
  generalize a0 / 2 ^ p.toNat = d at *
  refine (adapt_any d (1 + q) a2 _).mono ?_
  rintro e w9 ⟨rfl, hpw⟩
  subst hpw
  have x0 := (Pn.adapt_bd d (1 + q) a2).1
  have HAD := Lib.hid (radapt_any d (1 + q) a2)
  generalize Pn.adapt d (1 + q) a2 = x at *
  go_wp2_with fail
  refine (awake10_any _).mono ?_
  rintro e w2 ⟨rfl, hb⟩
  have HB := Lib.hid hb; clear hb
  go_wp2_with fail
  refine (adapt_any a0 a1 a2 _).mono ?_
  rintro e w9 ⟨rfl, hpw⟩
  subst hpw
  have HAE := Lib.hid (radapt_any a0 a1 a2)
  generalize Pn.adapt a0 a1 a2 = y at *
  go_wp2_with fail
  refine (HAE.out _).mono ?_
  rintro e w9 ⟨rfl, hpw⟩
  subst hpw
  have ky : (y == y) = true := by simp
  have kx : (x == x) = true := by simp
  go_wp2_with fail
  refine (HAD.out _).mono ?_
  rintro e w9 ⟨rfl, hpw⟩
  subst hpw
  go_wp2
  go_ret
  exact ⟨rfl, HB.out⟩
end Go.Proofs.Ytoihjbiahccaaaa
