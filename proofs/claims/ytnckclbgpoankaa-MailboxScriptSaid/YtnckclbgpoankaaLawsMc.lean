/- The walk of the law that two boxes do not disturb each other. -/
import Derived.Test.YtnckclbgpoankaaLawsMb
namespace Go.Proofs.Ytnckclbgpoankaa
open Go Go.RowKit Go.Conc
set_option linter.unusedVariables false

theorem own_ne {w : World} {K : Nat} {e : TypeId} {size n : Nat} {v : Value} {xs : List Value} {c : Nat} (h : w.ownsRow K e size v n xs) (hc : c < K) : v.ownBlock = none ∨ v.ownBlock ≠ some c := by
  cases hob : v.ownBlock with
  | none => exact .inl rfl
  | some q => exact .inr (by have := (h.lt q hob).1; intro h; injection h; omega)

theorem bx_drewN {w : World} {g c cap : Nat} {l : List ByteArray} (h : Box w g c cap l) (m : Nat) : Box (w.drewN m) g c cap l := h
theorem own_drewN {w : World} {K : Nat} {e : TypeId} {size n : Nat} {v : Value} {xs : List Value} (h : w.ownsRow K e size v n xs) (m : Nat) : (w.drewN m).ownsRow K e size v n xs := h
/-- A row that is read stays as it is while another block is written. -/
theorem rd_far {w w1 w2 : World} {B K n d : Nat} {A : Option Addr} {xs : List Value} {c : Nat} (h : Rd w1 B 1 A n xs)
    (hf : 0 < n → ∃ g, A = some ⟨g, 0, none⟩ ∧ K ≤ g ∧ g < w.heap.size ∧ n ≤ d ∧ (∀ j u, xs[j]? = some u → w.cell? ⟨g, j, none⟩ = some u) ∧ ∀ j, w.frozen? ⟨g, j, none⟩ = false)
    (hg : w1.grownBy w2 (some c)) (hc : c < K ∧ B ≤ w1.heap.size) : Rd w2 B 1 A n xs := by
  refine ⟨h.1, fun hn => ?_⟩
  obtain ⟨b, off, hA, hb, hcell⟩ := h.2 hn
  refine ⟨b, off, hA, hb, fun j u hu => ?_⟩
  obtain ⟨g, hA', hK, _⟩ := hf (by have := h.1; omega)
  rw [hA] at hA'
  injection hA' with hA'; injection hA' with h1 h2
  rw [World.cell?_of_block (w := w1) (a := ⟨b, off + j, none⟩) (hg.block b (by omega) (by intro h; injection h; omega))]
  exact hcell j u hu

set_option maxHeartbeats 4000000 in
theorem walk_MailboxTwo (a0 : Option Addr) (c0 : Nat) (x0 : List Int) (w : World) (r0 : Rd w w.heap.size 1 a0 x0.length (intsK .i64 x0)) (m0 : x0.length ≤ maxLen) (f0 : ∀ n ∈ x0, (Lit.int .i64 n).wf = true) :
    Calls Try.prog 7 #[.slice a0 x0.length c0] w fun e w' => e = .returned (.bool true) ∧ Below w.heap.size w w' := by
  clear f0
  rw [intsK_i64] at r0
  have HR := Lib.hid r0; have HM := Lib.hid m0; clear r0 m0
  generalize hB : w.heap.size = B at *
  have HBB := Lib.hid hB; clear hB
  go_enter Try.func7, Try.ntmps7
  go_wp2_with fail
  refine (new_yes 4 (by omega) (by omega) _).mono ?_
  rintro e w1 ⟨g, c, rfl, hx1, hg1, hc1, hb1⟩
  rw [HBB.out] at hg1 hc1 hb1
  have HB1 := Lib.hid hb1; have HX1 := Lib.hid hx1; clear hb1 hx1
  go_wp2_with fail
  refine (new_yes 4 (by omega) (by omega) _).mono ?_
  rintro e w2 ⟨g', c', rfl, hx2, hg2, hc2, hb2⟩
  have hl1 := HX1.out.lt
  have HB2 := Lib.hid (HB1.out.trans (hb2.mono (by have := HB1.out.size; have := HBB.out; omega)))
  have HX1' := Lib.hid (HX1.out.below hb2 hl1.1 hl1.2.1)
  have HX2 := Lib.hid hx2
  have hl2 := HX2.out.lt
  have hg2' : B ≤ g' := by have := HB1.out.size; have := HBB.out; omega
  have hc2' : B ≤ c' := by have := HB1.out.size; have := HBB.out; omega
  have d1 : g < g' := by omega
  have d2 : g < c' := by omega
  have d3 : c < g' := by omega
  have d4 : c < c' := by omega
  clear hb2 hx2 hg2 hc2
  go_wp2_with fail
  refine (from_any _ _ _ _).mono ?_
  rintro e w3 ⟨rfl, rfl⟩
  have HS3 := Lib.hid (src_new w2 a0 x0.length c0)
  have HXA3 := Lib.hid (HX1'.out.below ((Below.refl w2.heap.size w2).alloc (Nat.le_refl _) (.cells #[.slice a0 x0.length c0, .int .i64 0] 64)) (by have := HX1'.out.lt; omega) (by have := HX1'.out.lt; omega))
  have HXB3 := Lib.hid (HX2.out.below ((Below.refl w2.heap.size w2).alloc (Nat.le_refl _) (.cells #[.slice a0 x0.length c0, .int .i64 0] 64)) hl2.1 hl2.2.1)
  have HB3 := Lib.hid (HB2.out.alloc (by have := HB2.out.size; have := HBB.out; omega) (.cells #[.slice a0 x0.length c0, .int .i64 0] 64))
  have hsz3 : (w2.alloc (.cells #[.slice a0 x0.length c0, .int .i64 0] 64)).heap.size = w2.heap.size + 1 := by simp
  have hBs : B ≤ w2.heap.size := by omega
  obtain ⟨hl1a, hl1b, hl1c⟩ := HX1'.out.lt
  obtain ⟨hl2a, hl2b, hl2c⟩ := hl2
  generalize hgs : w2.heap.size = gs at *
  clear hgs
  generalize w2.alloc (.cells #[.slice a0 x0.length c0, .int .i64 0] 64) = w3 at *
  generalize hK : w3.heap.size = K at *
  have HK := Lib.hid hK; clear hK
  have hKg : K = gs + 1 := hsz3
  have hgK : gs < K := by omega
  clear hsz3 hKg hl1
  go_wp2_with fail
  go_loopw [8, 9, 10] (fun vx vy i wr => ∃ (k p : Nat) (xs ys : List ByteArray) (Ax : Option Addr) (dx : Nat) (Ay : Option Addr) (dy : Nat), k ≤ 20 ∧ i = .int .i64 k ∧ vx = .slice Ax xs.length dx ∧ vy = .slice Ay ys.length dy ∧ xs.length ≤ 4 ∧ ys.length ≤ 4 ∧
      Src wr gs a0 x0.length c0 p ∧ Box wr g c 4 xs ∧ Box wr g' c' 4 ys ∧ wr.ownsRow K 9 1 (.slice Ax xs.length dx) xs.length (strs xs) ∧ wr.ownsRow K 9 1 (.slice Ay ys.length dy) ys.length (strs ys) ∧
      (∀ q, (Value.slice Ax xs.length dx).ownBlock = some q → (Value.slice Ay ys.length dy).ownBlock ≠ some q) ∧ Below B w wr ∧ K ≤ wr.heap.size) (fun _ _ i _ => 20 - (intOf i).toNat)
  case atStart => exact ⟨0, 0, [], [], none, 0, none, 0, by omega, rfl, rfl, rfl, by simp, by simp, HS3.out, HXA3.out, HXB3.out, World.ownsRow_nil _ _ _ _, World.ownsRow_nil _ _ _ _, fun q h => by simp [Value.ownBlock] at h, HB3.out, by have := HK.out; omega⟩
  case round =>
    obtain ⟨k, p, xs, ys, Ax, dx, Ay, dy, hk, rfl, rfl, rfl, hx4, hy4, hs, hxa, hxb, hox, hoy, hsep, hb, hKr⟩ := hrel
    have HS := Lib.hid hs; have HXA := Lib.hid hxa; have HXB := Lib.hid hxb; have HOX := Lib.hid hox; have HOY := Lib.hid hoy; have HSEP := Lib.hid hsep; have HBW := Lib.hid hb
    clear hs hxa hxb hox hoy hsep hb
    by_cases hk20 : k < 20
    · by_cases hp : p < x0.length
      · go_wp2_with fail
        refine (left_any _ _ _ _ _ _ HS.out).mono ?_
        have hd : decide (p < x0.length) = true := by simpa using hp
        rw [hd]
        rintro e w1' ⟨rfl, m1, rfl⟩
        clear hd
        have HR1 := Lib.hid ((HR.out.below HBW.out).drewN m1)
        go_wp2_with fail
        refine (next_any _ _ _ _ _ 4 (by omega) (by omega) B _ (HS.out.drewN m1) HR1.out (by omega) HM.out).mono ?_
        rintro e w2' ⟨rfl, hs2, hg2⟩
        have n0 := Kp.nx_lo x0 p 4 (by omega); have n1 := Kp.nx_hi x0 p 4 (by omega)
        have HR2 := Lib.hid (HR1.out.grown hg2 (by simp; have := HBW.out.size; have := HBB.out; omega) (fun q hq => by injection hq; omega))
        have HG2 := Lib.hid hg2; have HS2 := Lib.hid hs2; clear hg2 hs2
        go_wp2_with fail
        refine (next_any _ _ _ _ _ 2 (by omega) (by omega) B _ HS2.out HR2.out (by omega) HM.out).mono ?_
        rintro e w4 ⟨rfl, hs4, hg4⟩
        have hgw : wr.grownBy w4 (some gs) := only_trans (only_trans (only_drewN (only_refl _ _) m1) HG2.out) hg4
        have HS4 := Lib.hid hs4
        have HXA4 := Lib.hid (HXA.out.only hgw (by simp; omega) (by simp; omega)); have HXB4 := Lib.hid (HXB.out.only hgw (by simp; omega) (by simp; omega))
        have HOX4 := Lib.hid (HOX.out.kept hgw (own_ne HOX.out hgK)); have HOY4 := Lib.hid (HOY.out.kept hgw (own_ne HOY.out hgK))
        have HBW4 := Lib.hid (HBW.out.grown hgw (by have := HBW.out.size; have := HBB.out; omega) (fun q hq => by injection hq; omega))
        have hK4 : K ≤ w4.heap.size := by have := hgw.size; omega
        clear hs4 hg4 hgw
        by_cases hch : Kp.nx x0 (Kp.ad x0 p) 2 = 0
        · have hbq : (Kp.nx x0 (Kp.ad x0 p) 2 == 0) = true := by rw [beq_iff_eq]; exact hch
          clear hch
          go_wp2_with fail

          generalize ByteArray.extract ⟨#[97, 98, 99, 100]⟩ (Kp.nx x0 p 4).toNat 4 = t
          by_cases hroom : xs.length < 4
          · refine (put_yes _ _ _ _ _ _ HXA4.out hroom).mono ?_
            rintro e w5 ⟨rfl, hx5, hg5⟩
            have HX5 := Lib.hid hx5
            have HY5 := Lib.hid (HXB4.out.only hg5 (by simp; omega) (by simp; omega))
            have HS5 := Lib.hid (Bk.grown HS4.out hg5 (by simp; omega))
            have HOX5 := Lib.hid (HOX4.out.kept hg5 (own_ne HOX4.out (by omega)))
            have HOY5 := Lib.hid (HOY4.out.kept hg5 (own_ne HOY4.out (by omega)))
            have HBW5 := Lib.hid (HBW4.out.grown hg5 (by have := HBW4.out.size; have := HBB.out; omega) (fun q hq => by injection hq; omega))
            have hK5 : K ≤ w5.heap.size := by have := hg5.size; omega
            clear hx5 hg5
            go_wp2_with (at_builtin; refine app_str ?hwa _ _ rfl (base := K) (n := xs.length) rfl (HOX5.out.alloc _) rfl (rd_one_str w5 t) ?hla ?hsa ?_)
            try (case hwa => rfl)
            case hla => omega
            case hsa => simp; omega
            intro A6 d6 w6 ho6 hg6 hat
            have hq : ∀ q, (Value.slice Ax xs.length dx).ownBlock = some q → K ≤ q := fun q h => (HOX5.out.lt q h).1
            have hal : w5.grownBy (w5.alloc (.cells #[.string t] 9)) none := only_alloc (only_refl _ _) _
            have HB6X := Lib.hid ((HX5.out.only hal (by simp) (by simp)).only hg6 (by intro h; have := hq _ h.symm; omega) (by intro h; have := hq _ h.symm; omega))
            have HB6Y := Lib.hid ((HY5.out.only hal (by simp) (by simp)).only hg6 (by intro h; have := hq _ h.symm; omega) (by intro h; have := hq _ h.symm; omega))
            have HS6 := Lib.hid (Bk.grown (Bk.grown HS5.out hal (by simp)) hg6 (by intro h; have := hq _ h.symm; omega))
            have HO6 := Lib.hid ho6
            have HOY6 := Lib.hid ((HOY5.out.alloc (.cells #[.string t] 9)).kept hg6 (by
              cases hob : (Value.slice Ay ys.length dy).ownBlock with
              | none => exact .inl rfl
              | some q => exact .inr (fun h => HSEP.out q h.symm hob)))
            have HSEP6 : Hid (∀ q, (Value.slice A6 (xs.length + 1) d6).ownBlock = some q → (Value.slice Ay ys.length dy).ownBlock ≠ some q) := Lib.hid (by
              intro q h1 h2
              rcases hat with h | h
              · exact HSEP.out q (h ▸ h1) h2
              · have e1 := h ▸ h1
                have := (HOY5.out.lt q h2).2
                simp at e1
                omega)
            have HBB6 := Lib.hid ((HBW5.out.alloc (by have := HBW5.out.size; have := HBB.out; omega) (.cells #[.string t] 9)).grown hg6 (by simp; have := HBW5.out.size; have := HBB.out; omega) (fun q h => by have := hq q h; omega))
            have hK6 : K ≤ w6.heap.size := by have := hg6.size; simp at this; omega
            clear ho6 hg6 hat hq hal
            go_wp2_with fail
            go_roundw
            case rel => exact ⟨k + 1, _, xs ++ [t], ys, A6, d6, Ay, dy, by omega, by go_num, by simp, rfl, by simp; omega, by omega, HS6.out, HB6X.out, HB6Y.out, (by rw [List.length_append]; exact HO6.out), HOY6.out, (by rw [List.length_append]; exact HSEP6.out), HBB6.out, hK6⟩
            case measure => simp [intOf]; omega
          · refine (put_no _ _ _ _ _ _ HXA4.out (by omega)).mono ?_
            rintro e w' ⟨rfl, rfl⟩
            go_wp2_with fail
            go_roundw
            case rel => exact ⟨k + 1, _, xs, ys, Ax, dx, Ay, dy, by omega, by go_num, rfl, rfl, by omega, by omega, HS4.out, HXA4.out, HXB4.out, HOX4.out, HOY4.out, HSEP.out, HBW4.out, hK4⟩
            case measure => simp [intOf]; omega
        · have hbq : (Kp.nx x0 (Kp.ad x0 p) 2 == 0) = false := by rw [beq_eq_false_iff_ne]; exact hch
          clear hch
          go_wp2_with fail

          generalize ByteArray.extract ⟨#[97, 98, 99, 100]⟩ (Kp.nx x0 p 4).toNat 4 = t
          by_cases hroom : ys.length < 4
          · refine (put_yes _ _ _ _ _ _ HXB4.out hroom).mono ?_
            rintro e w5 ⟨rfl, hx5, hg5⟩
            have HX5 := Lib.hid hx5
            have HY5 := Lib.hid (HXA4.out.only hg5 (by simp; omega) (by simp; omega))
            have HS5 := Lib.hid (Bk.grown HS4.out hg5 (by simp; omega))
            have HOX5 := Lib.hid (HOY4.out.kept hg5 (own_ne HOY4.out (by omega)))
            have HOY5 := Lib.hid (HOX4.out.kept hg5 (own_ne HOX4.out (by omega)))
            have HBW5 := Lib.hid (HBW4.out.grown hg5 (by have := HBW4.out.size; have := HBB.out; omega) (fun q hq => by injection hq; omega))
            have hK5 : K ≤ w5.heap.size := by have := hg5.size; omega
            clear hx5 hg5
            go_wp2_with (at_builtin; refine app_str ?hwb _ _ rfl (base := K) (n := ys.length) rfl (HOX5.out.alloc _) rfl (rd_one_str w5 t) ?hlb ?hsb ?_)
            try (case hwb => rfl)
            case hlb => omega
            case hsb => simp; omega
            intro A6 d6 w6 ho6 hg6 hat
            have hq : ∀ q, (Value.slice Ay ys.length dy).ownBlock = some q → K ≤ q := fun q h => (HOX5.out.lt q h).1
            have hal : w5.grownBy (w5.alloc (.cells #[.string t] 9)) none := only_alloc (only_refl _ _) _
            have HB6X := Lib.hid ((HX5.out.only hal (by simp) (by simp)).only hg6 (by intro h; have := hq _ h.symm; omega) (by intro h; have := hq _ h.symm; omega))
            have HB6Y := Lib.hid ((HY5.out.only hal (by simp) (by simp)).only hg6 (by intro h; have := hq _ h.symm; omega) (by intro h; have := hq _ h.symm; omega))
            have HS6 := Lib.hid (Bk.grown (Bk.grown HS5.out hal (by simp)) hg6 (by intro h; have := hq _ h.symm; omega))
            have HO6 := Lib.hid ho6
            have HOY6 := Lib.hid ((HOY5.out.alloc (.cells #[.string t] 9)).kept hg6 (by
              cases hob : (Value.slice Ax xs.length dx).ownBlock with
              | none => exact .inl rfl
              | some q => exact .inr (fun h => HSEP.out q hob h.symm)))
            have HSEP6 : Hid (∀ q, (Value.slice Ax xs.length dx).ownBlock = some q → (Value.slice A6 (ys.length + 1) d6).ownBlock ≠ some q) := Lib.hid (by
              intro q h1 h2
              rcases hat with h | h
              · exact HSEP.out q h1 (h ▸ h2)
              · have e1 := h ▸ h2
                have := (HOY5.out.lt q h1).2
                simp at e1
                omega)
            have HBB6 := Lib.hid ((HBW5.out.alloc (by have := HBW5.out.size; have := HBB.out; omega) (.cells #[.string t] 9)).grown hg6 (by simp; have := HBW5.out.size; have := HBB.out; omega) (fun q h => by have := hq q h; omega))
            have hK6 : K ≤ w6.heap.size := by have := hg6.size; simp at this; omega
            clear ho6 hg6 hat hq hal
            go_wp2_with fail
            go_roundw
            case rel => exact ⟨k + 1, _, xs, ys ++ [t], Ax, dx, A6, d6, by omega, by go_num, rfl, by simp, by omega, by simp; omega, HS6.out, HB6Y.out, HB6X.out, HOY6.out, (by rw [List.length_append]; exact HO6.out), (by rw [List.length_append]; exact HSEP6.out), HBB6.out, hK6⟩
            case measure => simp [intOf]; omega
          · refine (put_no _ _ _ _ _ _ HXB4.out (by omega)).mono ?_
            rintro e w' ⟨rfl, rfl⟩
            go_wp2_with fail
            go_roundw
            case rel => exact ⟨k + 1, _, xs, ys, Ax, dx, Ay, dy, by omega, by go_num, rfl, rfl, by omega, by omega, HS4.out, HXA4.out, HXB4.out, HOX4.out, HOY4.out, HSEP.out, HBW4.out, hK4⟩
            case measure => simp [intOf]; omega
      · go_wp2_with fail
        refine (left_any _ _ _ _ _ _ HS.out).mono ?_
        have hd : decide (p < x0.length) = false := by simpa using hp
        rw [hd]
        rintro e w1' ⟨rfl, m1, rfl⟩
        clear hd
        have HXA' := Lib.hid (bx_drewN HXA.out m1); have HXB' := Lib.hid (bx_drewN HXB.out m1); have HOX' := Lib.hid (own_drewN HOX.out m1); have HOY' := Lib.hid (own_drewN HOY.out m1); have HBW' := Lib.hid (below_drewN HBW.out m1)
        have hKr' : K ≤ (wr.drewN m1).heap.size := by simpa using hKr
        clear HXA HXB HOX HOY HBW HS hKr
        have HXA := HXA'; have HXB := HXB'; have HOX := HOX'; have HOY := HOY'; have HBW := HBW'; have hKr := hKr'
        clear HXA' HXB' HOX' HOY' HBW' hKr'
        generalize wr.drewN m1 = wr at *
        go_wp2_with fail
        refine (awake29_any _).mono ?_
        rintro e w5 ⟨rfl, hb5⟩
        have hga := HXA.out.lt; have hgb := HXB.out.lt
        have HXA5 := Lib.hid (HXA.out.below hb5 hga.1 hga.2.1); have HXB5 := Lib.hid (HXB.out.below hb5 hgb.1 hgb.2.1)
        have HRX5 := Lib.hid (((Rd.of_own HOX.out).below hb5)); have HRY5 := Lib.hid (((Rd.of_own HOY.out).below hb5))
        have HBW5 := Lib.hid (HBW.out.trans (hb5.mono (by have := HBW.out.size; have := HBB.out; omega)))
        have hs5 := hb5.size
        have HQX : Hid (∀ q, (Value.slice Ax xs.length dx).ownBlock = some q → K ≤ q) := Lib.hid (fun q h => (HOX.out.lt q h).1)
        have HQY : Hid (∀ q, (Value.slice Ay ys.length dy).ownBlock = some q → K ≤ q) := Lib.hid (fun q h => (HOY.out.lt q h).1)
        have HFX := Lib.hid (fun hn => own_at HOX.out hn); have HFY := Lib.hid (fun hn => own_at HOY.out hn)
        clear hb5
        go_wp2_with fail
        refine (drain_any _ _ _ _ _ HXA5.out (by omega)).mono ?_
        rintro e w6 ⟨A6, d6, rfl, ho6, _, hg6⟩
        have HXB6 := Lib.hid (HXB5.out.only hg6 (by simp; omega) (by simp; omega))
        have HRX6 := Lib.hid (rd_far HRX5.out HFX.out hg6 (by omega)); have HRY6 := Lib.hid (rd_far HRY5.out HFY.out hg6 (by omega))
        have HO6 := Lib.hid (Rd.of_own ho6)
        have hs6 := hg6.size
        have HBW6 := Lib.hid (HBW5.out.grown hg6 (by have := HBW5.out.size; have := HBB.out; omega) (fun q hq => by injection hq; omega))
        clear ho6 hg6
        go_wp2_with fail
        refine (sames_ok _ _ _ _ _ _ _ _ _ _ HO6.out (HRX6.out.more (by omega)) (by unfold maxLen; omega) (by unfold maxLen; omega) rfl).mono ?_
        rintro e w7 ⟨rfl, m7, rfl⟩
        go_wp2_with fail
        refine (drain_any _ _ _ ys _ (bx_drewN HXB6.out m7) (by omega)).mono ?_
        rintro e w8 ⟨A8, d8, rfl, ho8, _, hg8⟩
        have HRY8 := Lib.hid (rd_far (HRY6.out.drewN m7) HFY.out hg8 (by simp; omega))
        have HO8 := Lib.hid (Rd.of_own ho8)
        have hs8 : w6.heap.size ≤ w8.heap.size := by simpa using hg8.size
        have HBW8 := Lib.hid ((below_drewN HBW6.out m7).grown hg8 (by simp; have := HBW6.out.size; have := HBB.out; omega) (fun q hq => by injection hq; omega))
        clear ho8 hg8
        go_wp2_with fail
        refine (sames_ok _ _ _ _ _ _ _ _ _ _ HO8.out (HRY8.out.more (by omega)) (by unfold maxLen; omega) (by unfold maxLen; omega) rfl).mono ?_
        rintro e w9 ⟨rfl, m9, rfl⟩
        have x4 : (xs.length : Int) ≤ 4 := by omega
        have y4 : (ys.length : Int) ≤ 4 := by omega
        go_wp2
        go_ret
        exact ⟨rfl, below_drewN HBW8.out _⟩
    · go_wp2_with fail
      refine (awake29_any _).mono ?_
      rintro e w5 ⟨rfl, hb5⟩
      have hga := HXA.out.lt; have hgb := HXB.out.lt
      have HXA5 := Lib.hid (HXA.out.below hb5 hga.1 hga.2.1); have HXB5 := Lib.hid (HXB.out.below hb5 hgb.1 hgb.2.1)
      have HRX5 := Lib.hid (((Rd.of_own HOX.out).below hb5)); have HRY5 := Lib.hid (((Rd.of_own HOY.out).below hb5))
      have HBW5 := Lib.hid (HBW.out.trans (hb5.mono (by have := HBW.out.size; have := HBB.out; omega)))
      have hs5 := hb5.size
      have HQX : Hid (∀ q, (Value.slice Ax xs.length dx).ownBlock = some q → K ≤ q) := Lib.hid (fun q h => (HOX.out.lt q h).1)
      have HQY : Hid (∀ q, (Value.slice Ay ys.length dy).ownBlock = some q → K ≤ q) := Lib.hid (fun q h => (HOY.out.lt q h).1)
      have HFX := Lib.hid (fun hn => own_at HOX.out hn); have HFY := Lib.hid (fun hn => own_at HOY.out hn)
      clear hb5
      go_wp2_with fail
      refine (drain_any _ _ _ _ _ HXA5.out (by omega)).mono ?_
      rintro e w6 ⟨A6, d6, rfl, ho6, _, hg6⟩
      have HXB6 := Lib.hid (HXB5.out.only hg6 (by simp; omega) (by simp; omega))
      have HRX6 := Lib.hid (rd_far HRX5.out HFX.out hg6 (by omega)); have HRY6 := Lib.hid (rd_far HRY5.out HFY.out hg6 (by omega))
      have HO6 := Lib.hid (Rd.of_own ho6)
      have hs6 := hg6.size
      have HBW6 := Lib.hid (HBW5.out.grown hg6 (by have := HBW5.out.size; have := HBB.out; omega) (fun q hq => by injection hq; omega))
      clear ho6 hg6
      go_wp2_with fail
      refine (sames_ok _ _ _ _ _ _ _ _ _ _ HO6.out (HRX6.out.more (by omega)) (by unfold maxLen; omega) (by unfold maxLen; omega) rfl).mono ?_
      rintro e w7 ⟨rfl, m7, rfl⟩
      go_wp2_with fail
      refine (drain_any _ _ _ ys _ (bx_drewN HXB6.out m7) (by omega)).mono ?_
      rintro e w8 ⟨A8, d8, rfl, ho8, _, hg8⟩
      have HRY8 := Lib.hid (rd_far (HRY6.out.drewN m7) HFY.out hg8 (by simp; omega))
      have HO8 := Lib.hid (Rd.of_own ho8)
      have hs8 : w6.heap.size ≤ w8.heap.size := by simpa using hg8.size
      have HBW8 := Lib.hid ((below_drewN HBW6.out m7).grown hg8 (by simp; have := HBW6.out.size; have := HBB.out; omega) (fun q hq => by injection hq; omega))
      clear ho8 hg8
      go_wp2_with fail
      refine (sames_ok _ _ _ _ _ _ _ _ _ _ HO8.out (HRY8.out.more (by omega)) (by unfold maxLen; omega) (by unfold maxLen; omega) rfl).mono ?_
      rintro e w9 ⟨rfl, m9, rfl⟩
      have x4 : (xs.length : Int) ≤ 4 := by omega
      have y4 : (ys.length : Int) ≤ 4 := by omega
      go_wp2
      go_ret
      exact ⟨rfl, below_drewN HBW8.out _⟩
end Go.Proofs.Ytnckclbgpoankaa
