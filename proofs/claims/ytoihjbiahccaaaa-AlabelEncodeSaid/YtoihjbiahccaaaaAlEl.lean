/- The walk of the law AlabelEncode. -/
import Derived.Test.YtoihjbiahccaaaaReLa
import Derived.Test.YtoihjbiahccaaaaAlWd
namespace Go.Proofs.Ytoihjbiahccaaaa
open Go Go.RowKit
set_option linter.unusedVariables false

set_option maxRecDepth 100000 in
set_option maxHeartbeats 8000000 in
theorem walk_AlabelEncode (a0 : Option Addr) (c0 : Nat) (x0 : List Int) (a1 : Option Addr) (c1 : Nat) (x1 : List Int) (a2 : Int) (w : World) (r0 : Rd w w.heap.size 1 a0 x0.length (ints x0)) (m0 : x0.length ≤ maxLen) (f0 : ∀ n ∈ x0, (Lit.int .i64 n).wf = true)
    (q0 : x0.length * 8 ≤ reachBytes ∧ x0.length ≤ c0) (r1 : Rd w w.heap.size 1 a1 x1.length (ints x1)) (m1 : x1.length ≤ maxLen) (f1 : ∀ n ∈ x1, (Lit.int .i64 n).wf = true) (q1 : x1.length * 8 ≤ reachBytes ∧ x1.length ≤ c1) (w2 : (Lit.int .i64 a2).wf = true) :
    Calls Try.prog 11 #[.slice a0 x0.length c0, .slice a1 x1.length c1, .int .i64 a2] w fun e w' => e = .returned (.bool true) ∧ Below w.heap.size w w' := by
  have hx0 : x0.length ≤ 17592186044000 := by have := q0.1; unfold reachBytes at this; omega
  have HR0 := Lib.hid r0; have HR1 := Lib.hid r1; have HL1 := Lib.hid m1
  have p0 := Kp.pick_lo a2 4 (by omega)
  have p1 := Kp.pick_hi a2 4 (by omega)
  obtain ⟨q, hq⟩ : ∃ q : Nat, (q : Int) = Kp.pick a2 4 := ⟨(Kp.pick a2 4).toNat, by omega⟩
  have hq3 : q ≤ 3 := by omega
  have HQ := Lib.hid hq
  clear r0 m0 f0 q0 r1 m1 f1 q1 w2 p0 p1 hq
  go_enter Try.func11, Try.ntmps11
  go_wp2_with fail
  refine (words_any a1 c1 x1 w HR1.out HL1.out).mono ?_
  rintro e w1 ⟨p, A1, c1', rfl, ho1, hb1, hp1, hp6, hall⟩
  have HO1 := Lib.hid ho1; have HB1 := Lib.hid hb1
  clear ho1 hb1 hall hp1
  go_wp2_with fail
  refine (pick_any a2 4 (by omega) (by omega) _).mono ?_
  rintro e w9 ⟨rfl, hpw⟩
  subst hpw
  rw [← HQ.out]
  have h48 : p.length * 2 ^ q ≤ 48 := by
    have : 2 ^ q ≤ 8 := by
      have h : q = 0 ∨ q = 1 ∨ q = 2 ∨ q = 3 := by omega
      rcases h with rfl | rfl | rfl | rfl <;> decide
    calc p.length * 2 ^ q ≤ 6 * 8 := Nat.mul_le_mul hp6 this
      _ = 48 := rfl
  have H48 := Lib.hid h48
  clear h48 hp6
  go_wp2_with fail
  go_loopw [7, 8] (fun vw vn wr => ∃ (k : Nat) (p : List Int) (A : Option Addr) (c n : Nat), k ≤ q ∧ vn = .int .i64 k ∧ p.length = n ∧ vw = .slice A n c ∧ p.length * 2 ^ k ≤ 48 ∧ wr.ownsRow w.heap.size 3 1 (.slice A n c) n (ints p) ∧ Below w.heap.size w wr) (fun _ vn _ => (intOf vn).toNat)
  case atStart => exact ⟨q, p, A1, c1', p.length, Nat.le_refl _, rfl, rfl, rfl, H48.out, HO1.out, HB1.out⟩
  case round =>
    obtain ⟨k, p2, A2, c2, n, hk, rfl, hn, rfl, hp2, ho2, hb2⟩ := hrel
    have HN := Lib.hid hn; have HO2 := Lib.hid ho2; have HB2 := Lib.hid hb2; have HP2 := Lib.hid hp2
    have hsw := hb2.size
    have hn48 : n ≤ 48 := by
      have h1 : 1 ≤ 2 ^ k := Nat.one_le_two_pow
      have h2 : n * 1 ≤ n * 2 ^ k := Nat.mul_le_mul_left n h1
      rw [hn] at hp2; omega
    clear ho2 hb2 hn hp2 HO1 HB1 H48
    by_cases hk0 : 0 < k
    · have hki : (0 : Int) < (k : Int) := by omega
      have hr2 := Rd.of_own HO2.out
      have HR2 := Lib.hid hr2; clear hr2
      go_wp2_with (at_builtin; refine app_int (by rfl) _ _ rfl (base := w.heap.size) (v := .slice none 0 0) (n := 0) (xs := []) rfl (World.ownsRow_nil _ _ _ _) rfl HR2.out (by omega) hsw ?_)
      intro A3 c3 w3 ho3 hg3 _
      have HB3 := Lib.hid (HB2.out.grown hg3 hsw (fun q h => by simp [Value.ownBlock] at h))
      have HR3 := Lib.hid (HR2.out.grown hg3 (Nat.le_refl _) (fun q h => by simp [Value.ownBlock] at h))
      have HO3 := Lib.hid ho3
      have hsw3 := HB3.out.size
      clear ho3 hg3
      go_wp2_with (at_builtin; refine app_int (by rfl) _ _ rfl (base := w.heap.size) (xs := p2) rfl HO3.out rfl HR3.out (by omega) hsw3 ?_)
      intro A4 c4 w4 ho4 hg4 _
      have HB4 := Lib.hid (HB3.out.grown hg4 hsw3 (fun q h => (HO3.out.lt q h).1))
      have HO4 := Lib.hid ho4
      clear ho4 hg4
      obtain ⟨k', rfl⟩ : ∃ k', k = k' + 1 := ⟨k - 1, by omega⟩
      have hlen : (p2 ++ p2).length = n + n := by rw [List.length_append, HN.out]
      have hpw : (p2 ++ p2).length * 2 ^ k' ≤ 48 := by
        have := HP2.out
        rw [Nat.pow_succ] at this
        rw [List.length_append]
        rw [Nat.add_mul]
        have h2 : p2.length * (2 ^ k' * 2) = p2.length * 2 ^ k' + p2.length * 2 ^ k' := by rw [← Nat.mul_assoc, Nat.mul_two]
        omega
      have HLEN := Lib.hid hlen; have HPW := Lib.hid hpw
      clear hlen hpw
      go_wp2
      go_roundw
      case rel => exact ⟨k', p2 ++ p2, A4, c4, n + n, by omega, by first | go_num | rfl, HLEN.out, rfl, HPW.out, HO4.out, HB4.out⟩
      case measure => simp [intOf] <;> omega
    · have hk00 : k = 0 := by omega
      subst hk00
      have hki : ¬ (0 : Int) < 0 := by omega
      have hn2 := HN.out
      subst hn2
      have HR2 := Lib.hid (Rd.of_own HO2.out)
      have HRA := Lib.hid (HR0.out.below HB2.out)
      clear hk hk0 HO2 HP2 HR0 HR1
      go_wp2_with fail
      refine (label_any a0 c0 x0 w.heap.size wr HRA.out hsw hx0).mono ?_
      rintro e w3 ⟨rfl, hb⟩
      have HR3 := Lib.hid (HR2.out.below hb)
      have HA3 := Lib.hid (HRA.out.below (hb.mono hsw))
      have HB3 := Lib.hid (HB2.out.trans (hb.mono hsw))
      have hsw3 := HB3.out.size; have hsr3 := hb.size
      clear hb
      go_wp2_with fail
      refine (rlabel_any a0 c0 x0 w.heap.size w3 HA3.out hsw3 hx0).mono ?_
      rintro e w4 ⟨rfl, hb⟩
      have HR4 := Lib.hid (HR3.out.below (hb.mono hsr3))
      have HA4 := Lib.hid (HA3.out.below (hb.mono hsw3))
      have HB4 := Lib.hid (HB3.out.trans (hb.mono hsw3))
      have hsw4 := HB4.out.size; have hsr4 : wr.heap.size ≤ w4.heap.size := Nat.le_trans hsr3 hb.size
      clear hb
      go_wp2_with fail
      refine (label_any A2 c2 p2 wr.heap.size w4 HR4.out hsr4 (by omega)).mono ?_
      rintro e w5 ⟨rfl, hb⟩
      have HR5 := Lib.hid (HR4.out.below (hb.mono hsr4))
      have HA5 := Lib.hid (HA4.out.below (hb.mono hsw4))
      have HB5 := Lib.hid (HB4.out.trans (hb.mono hsw4))
      have hsw5 := HB5.out.size; have hsr5 : wr.heap.size ≤ w5.heap.size := Nat.le_trans hsr4 hb.size
      clear hb
      go_wp2_with fail
      refine (rlabel_any A2 c2 p2 wr.heap.size w5 HR5.out hsr5 (by omega)).mono ?_
      rintro e w6 ⟨rfl, hb⟩
      have HR6 := Lib.hid (HR5.out.below (hb.mono hsr5))
      have HA6 := Lib.hid (HA5.out.below (hb.mono hsw5))
      have HB6 := Lib.hid (HB5.out.trans (hb.mono hsw5))
      have hsw6 := HB6.out.size; have hsr6 : wr.heap.size ≤ w6.heap.size := Nat.le_trans hsr5 hb.size
      clear hb
      generalize (Al.lab x0).1 = M0 at *
      generalize (Al.lab x0).2 = f0 at *
      generalize (Al.lab p2).1 = M1 at *
      generalize (Al.lab p2).2 = f1 at *
      go_wp2_with fail
      refine (awake11_any _).mono ?_
      rintro e w7 ⟨rfl, hb⟩
      have HR7 := Lib.hid (HR6.out.below (hb.mono hsr6))
      have HA7 := Lib.hid (HA6.out.below (hb.mono hsw6))
      have HB7 := Lib.hid (HB6.out.trans (hb.mono hsw6))
      clear hb
      go_wp2_with fail
      refine (ascii_any a0 c0 x0 w.heap.size w7 HA7.out (by omega)).mono ?_
      rintro e w8 ⟨rfl, hpw⟩
      subst hpw
      go_wp2_with fail
      refine (rascii_any a0 c0 x0 w.heap.size w7 HA7.out (by omega)).mono ?_
      rintro e w8 ⟨rfl, hpw⟩
      subst hpw
      generalize Al.ascii x0 = b0 at *
      go_wp2_with fail
      refine (ascii_any A2 c2 p2 wr.heap.size w7 HR7.out (by omega)).mono ?_
      rintro e w8 ⟨rfl, hpw⟩
      subst hpw
      go_wp2_with fail
      refine (rascii_any A2 c2 p2 wr.heap.size w7 HR7.out (by omega)).mono ?_
      rintro e w8 ⟨rfl, hpw⟩
      subst hpw
      go_wp2
      go_ret
      exact ⟨rfl, HB7.out⟩
end Go.Proofs.Ytoihjbiahccaaaa
