/- The walk of the law PunyDamaged. -/
import Derived.Test.YtoihjbiahccaaaaPdD
import Derived.Test.YtoihjbiahccaaaaPtN
import Derived.Test.YtoihjbiahccaaaaReEn
import Derived.Test.YtoihjbiahccaaaaSamK
import Derived.BigQuiet
namespace Go.Proofs.Ytoihjbiahccaaaa
open Go Go.RowKit
set_option linter.unusedVariables false

/-- One walk in the text's order, in the worlds of a class. -/
theorem region_class {P : Program} (C : World → Prop) {id : Nat} {Q : Exit → Act → World → Prop} {a : Act} {w : World} {l : List Oper} (hm : P.follows .mixedOrders = true) (hB : Region.lexB .any l.toArray = true)
    (hC : C w.drew) (h : wpQuiet P l.toArray C (fun a' => ∀ w', C w' → Q .normal a' w') l a) : (Code.region id l.toArray true).wp P Q a w :=
  wp_region_quiet (C := C) hm hB hC (by simpa using h)
theorem own_len {w : World} {base : Nat} {e : TypeId} {size n c : Nat} {A : Option Addr} {xs : List Value} (h : w.ownsRow base e size (.slice A n c) n xs) : n ≤ maxLen := by
  rcases h.2 with ⟨_, h0⟩ | ⟨g, cap, cur, hv, hbg, hh, hnc, hcm, hcs, htk⟩
  · omega
  · omega
set_option maxHeartbeats 4000000 in
theorem agrees_any (s : ByteArray) (hs : s.size ≤ 1000000000000000) (w : World) : Calls Try.prog 21 #[.string s] w fun e w' => e = .returned (.bool true) ∧ Below w.heap.size w w' := by
  have HD := Lib.hid (decode_any s hs); have HR := Lib.hid (rdecode_any s hs)
  generalize Pn.decP (lst s) = r at *
  obtain ⟨l, n⟩ := r
  go_enter Try.func21, Try.ntmps21
  go_wp2_with fail
  refine (HD.out _).mono ?_
  rintro e w1 ⟨A1, c1, rfl, ho1, hb1⟩
  have hm1 := own_len ho1
  have HR1 := Lib.hid (Rd.of_own ho1); have HB1 := Lib.hid hb1; have hsz1 := hb1.size
  clear ho1 hb1
  go_wp2_with fail
  refine (HR.out _).mono ?_
  rintro e w2 ⟨A2, c2, rfl, ho2, hb2⟩
  have HR2 := Lib.hid (Rd.of_own ho2); have HR1' := Lib.hid (HR1.out.below hb2)
  have hsz2 := hb2.size
  have HB2 := Lib.hid (HB1.out.trans (hb2.mono hsz1))
  clear ho2 hb2
  simp only at *
  go_wp2_with fail
  refine (same_ok A1 A2 l.length l.length c1 c2 l l w2.heap.size w2 (Rd.more HR1'.out hsz2) HR2.out hm1 hm1 rfl).mono ?_
  rintro e w3 ⟨rfl, q, rfl⟩
  go_wp2
  go_ret
  exact ⟨rfl, below_drewN HB2.out _⟩
set_option maxRecDepth 100000 in
set_option maxHeartbeats 8000000 in
theorem walk_PunyDamaged (a0 : Option Addr) (c0 : Nat) (x0 : List Int) (a1 a2 : Int) (w : World) (r0 : Rd w w.heap.size 1 a0 x0.length (ints x0)) (m0 : x0.length ≤ maxLen) (f0 : ∀ n ∈ x0, (Lit.int .i64 n).wf = true) (w1 : (Lit.int .i64 a1).wf = true) (w2 : (Lit.int .i64 a2).wf = true) :
    Calls Try.prog 4 #[.slice a0 x0.length c0, .int .i64 a1, .int .i64 a2] w fun e w' => e = .returned (.bool true) ∧ Below w.heap.size w w' := by
  have hp1 := Pn.lp_len x0; have hp2 := Pn.lp_scalar x0
  have henc := encP_good (l := Pn.lp x0) (by omega) hp2
  have hes := Pn.enc_len (Pn.lp x0) (fun c hc => (Pn.scalar_bd (hp2 c hc)).2) (by omega)
  have hpt := points_any a0 c0 x0 w r0 m0
  have HPT := Lib.hid hpt
  have HE := Lib.hid henc
  clear r0 m0 f0 w1 w2 hp2 henc hpt
  generalize Pn.lp x0 = p at *
  go_enter Try.func4, Try.ntmps4
  go_wp2_with fail
  refine HPT.out.mono ?_
  rintro e w1 ⟨A1, c1, rfl, ho1, hb1⟩
  have HR1 := Lib.hid (Rd.of_own ho1); have HB1 := Lib.hid hb1
  have hsz1 := hb1.size
  clear ho1 hb1
  go_wp2_with fail
  have hct := rencode_any A1 c1 p w1.heap.size w1 HR1.out (Nat.le_refl _) (by omega)
  rw [HE.out] at hct
  refine hct.mono ?_
  clear hct HE
  rintro e w2 ⟨rfl, hb2⟩
  have HB2 := Lib.hid (HB1.out.trans (hb2.mono hsz1)); have hsz2 := HB2.out.size
  clear hb2
  generalize Pn.enc p = T at *
  have hzT : (str T).size = T.length := str_size T
  have hT122 : T.length ≤ 122 := by omega
  by_cases hT : T = []
  · subst hT
    have hstr : str [] = (⟨#[]⟩ : ByteArray) := rfl
    rw [hstr]
    go_wp2_with fail
    refine (awake10_any _).mono ?_
    rintro e w7 ⟨rfl, hb7⟩
    have HB7 := Lib.hid (HB2.out.trans (hb7.mono hsz2))
    clear hb7
    go_wp2
    go_ret
    exact ⟨rfl, HB7.out⟩
  · have hne := str_ne hT
    have hpos : 1 ≤ T.length := List.length_pos_iff.2 hT
    have hS1 : 1 ≤ (str T).size := by omega
    have hS2 : (str T).size ≤ 122 := by omega
    clear hT hzT hT122 hes hpos
    generalize str T = S at *
    go_wp2_with fail
    refine (pick_any a1 (S.size : Int) (by omega) (by omega) _).mono ?_
    rintro e w9 ⟨rfl, hw9⟩
    subst hw9
    have k0 := Kp.pick_lo a1 (S.size : Int) (by omega)
    have k1 := Kp.pick_hi a1 (S.size : Int) (by omega)
    generalize Kp.pick a1 (S.size : Int) = kk at *
    obtain ⟨k, rfl⟩ := Int.eq_ofNat_of_zero_le k0
    go_wp2_with fail
    refine (pick_any a2 10 (by omega) (by omega) _).mono ?_
    rintro e w9 ⟨rfl, hw9⟩
    subst hw9
    go_wp2_with fail
    refine (pick_any a2 10 (by omega) (by omega) _).mono ?_
    rintro e w9 ⟨rfl, hw9⟩
    subst hw9
    have d0 := Kp.pick_lo a2 10 (by omega)
    have d1 := Kp.pick_hi a2 10 (by omega)
    generalize Kp.pick a2 10 = dd at *
    obtain ⟨d, rfl⟩ := Int.eq_ofNat_of_zero_le d0
    go_wp2_with fail
    have hB : (ByteArray.extract ⟨#[97, 122, 48, 57, 45, 65, 90, 57, 127, 255]⟩ d (d + 1)).size ≤ 1 := by rw [ByteArray.size_extract]; omega
    generalize ByteArray.extract ⟨#[97, 122, 48, 57, 45, 65, 90, 57, 127, 255]⟩ d (d + 1) = B at *
    obtain ⟨C, hC⟩ : ∃ C : World → Prop, C = fun w' => Below w.heap.size w w' := ⟨_, rfl⟩
    have hC0 : C w2.drew := by rw [hC]; exact HB2.out.drew
    have haw : (∀ w', C w' → Calls Try.prog 19 #[] w' fun e w'' => e = .returned (.bool true) ∧ C w'') := by
      intro w' h
      rw [hC] at h ⊢
      refine (awake10_any w').mono ?_
      rintro e w'' ⟨he, hb⟩
      exact ⟨he, h.trans (hb.mono h.size)⟩
    have hag : (∀ s : ByteArray, s.size ≤ 1000000 → ∀ w', C w' → Calls Try.prog 21 #[.string s] w' fun e w'' => e = .returned (.bool true) ∧ C w'') := by
      intro s hs w' h
      rw [hC] at h ⊢
      refine (agrees_any s (by omega) w').mono ?_
      rintro e w'' ⟨he, hb⟩
      exact ⟨he, h.trans (hb.mono h.size)⟩
    have HC := Lib.hid hC; have HAW := Lib.hid haw; have HAG := Lib.hid hag
    clear hC haw hag HPT HR1 HB1 HB2 hne
    have hk : k < S.size := by omega
    refine region_class C (by kernel_rfl) (by kernel_rfl) hC0 ?_
    clear hC0
    repeat (first
      | go_big_quiet_skip
      | (go_big_quiet_want
         go_big_quiet_op
         first
           | go_big_quiet_on
           | (refine ⟨_, fun _ _ => rfl, ?_⟩
              go_big_quiet_on)
           | (apply Exists.intro
              refine ⟨fun _ hc => ?_, ?_⟩
              · first | exact HAW.out _ hc | exact HAG.out _ (by simp [ByteArray.size_append, ByteArray.size_extract]; omega) _ hc
              go_big_quiet_on)))
    refine wpQuiet_nil ?_
    intro w3 hw3
    have HF := Lib.hid (show Below w.heap.size w w3 by rw [HC.out] at hw3; exact hw3)
    clear hw3 HAW HAG HC
    go_wp2
    go_ret
    exact ⟨rfl, HF.out⟩
end Go.Proofs.Ytoihjbiahccaaaa
