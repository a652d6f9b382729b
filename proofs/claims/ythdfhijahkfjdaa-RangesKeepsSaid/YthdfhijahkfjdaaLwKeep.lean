/- The walk of the law RangesKeeps. -/
import Derived.Test.YthdfhijahkfjdaaMk
import Derived.Test.YthdfhijahkfjdaaAgrees
namespace Go.Proofs.Ythdfhijahkfjdaa
open Go Go.RowKit
set_option linter.unusedVariables false


/-- Row A of n spans may be written: its block lies from G to K. -/
def WRow (w : World) (G K : Nat) (A : Option Addr) (n : Nat) : Prop :=
  0 < n → ∃ (g : Nat) (cs : Array Value) (t : TypeId), A = some ⟨g, 0, none⟩ ∧ G ≤ g ∧ g < K ∧ w.heap[g]? = some (.cells cs t (0, 0)) ∧ n * 3 ≤ cs.size
theorem WRow.of_own {w : World} {G : Nat} {e : TypeId} {A : Option Addr} {n c : Nat} {xs : List Value} (h : w.ownsRow G e 3 (.slice A n c) n xs) : WRow w G w.heap.size A n := by
  intro hn
  rcases h.2 with ⟨_, h0⟩ | ⟨g, cap, cur, hv, hb, hh, hnc, _, hcs, _⟩
  · omega
  · injection hv with e1 e2 e3
    subst e1
    exact ⟨g, cur, e, rfl, hb, (Array.getElem?_eq_some_iff.1 hh).1, hh, by rw [hcs]; exact Nat.mul_le_mul_right 3 hnc⟩
theorem WRow.below {w w' : World} {G K K' B : Nat} {A : Option Addr} {n : Nat} (h : WRow w G K A n) (hb : Below B w w') (hK : K ≤ B) (hK' : K ≤ K') : WRow w' G K' A n := by
  intro hn
  obtain ⟨g, cs, t, h1, h2, h3, h4, h5⟩ := h hn
  exact ⟨g, cs, t, h1, h2, by omega, (hb.block g (by omega)).trans h4, h5⟩
theorem WRow.low {w : World} {G G' K : Nat} {A : Option Addr} {n : Nat} (h : WRow w G K A n) (hG : G' ≤ G) : WRow w G' K A n := by
  intro hn
  obtain ⟨g, cs, t, h1, h2, h3⟩ := h hn
  exact ⟨g, cs, t, h1, by omega, h3⟩
/-- Only cells of the blocks from b1 to b2 have turned; the blocks are as large as they were. -/
structure Alk (b1 b2 : Nat) (a w : World) : Prop where
  os : w.os = a.os
  tape : w.tape = a.tape
  output : w.output = a.output
  size : w.heap.size = a.heap.size
  same : ∀ q : Nat, q < b1 ∨ b2 ≤ q → w.heap[q]? = a.heap[q]?
  live : ∀ (q : Nat) (cs : Array Value) (t : TypeId), a.heap[q]? = some (.cells cs t (0, 0)) → ∃ cs' : Array Value, w.heap[q]? = some (.cells cs' t (0, 0)) ∧ cs'.size = cs.size
theorem Alk.refl (b1 b2 : Nat) (w : World) : Alk b1 b2 w w := ⟨rfl, rfl, rfl, rfl, fun _ _ => rfl, fun q cs t h => ⟨cs, h, rfl⟩⟩
theorem Alk.set {b1 b2 : Nat} {a w : World} (h : Alk b1 b2 a w) {g : Nat} (h1 : b1 ≤ g) (h2 : g < b2) (i : Nat) (u : Value) : Alk b1 b2 a (w.setCell ⟨g, i, none⟩ u) := by
  refine ⟨h.os, h.tape, h.output, by have := h.size; simpa [World.setCell] using this, fun q hq => ?_, fun q cs t hh => ?_⟩
  · rw [Below.heap_setCell w ⟨g, i, none⟩ u q (by show q ≠ g; rcases hq with hq | hq <;> omega)]
    exact h.same q hq
  · obtain ⟨cs', k1, k2⟩ := h.live q cs t hh
    by_cases e : q = g
    · subst e
      have := Bk.set_ (w := w) (g := q) (t := t) (cs := cs') k1 i u
      exact ⟨_, this, by simpa using k2⟩
    · exact ⟨cs', by rw [Below.heap_setCell w ⟨g, i, none⟩ u q e]; exact k1, k2⟩
theorem Alk.below {b1 b2 : Nat} {a w : World} (h : Alk b1 b2 a w) : Below b1 a w := ⟨h.os, h.tape, h.output, by rw [h.size]; exact Nat.le_refl _, fun k hk => h.same k (.inl hk)⟩
theorem four_at (p q r s : Value) (k : Nat) (hk : k < 4) : (#[p, q, r, s] : Array Value)[k]? = some (if k = 0 then p else if k = 1 then q else if k = 2 then r else s) := by
  have : k = 0 ∨ k = 1 ∨ k = 2 ∨ k = 3 := by omega
  rcases this with rfl | rfl | rfl | rfl <;> rfl
set_option maxRecDepth 100000 in
set_option maxHeartbeats 8000000 in
theorem walk_RangesKeeps (a0 : Option Addr) (c0 : Nat) (l : List Int) (a1 : Option Addr) (c1 : Nat) (m : List Int) (fr : Int) (tu : Int) (w : World) (r0 : Rd w w.heap.size 1 a0 l.length (intsK .i64 l)) (m0 : l.length ≤ maxLen) (f0 : ∀ n ∈ l, (Lit.int .i64 n).wf = true) (r1 : Rd w w.heap.size 1 a1 m.length (intsK .i64 m)) (m1 : m.length ≤ maxLen) (f1 : ∀ n ∈ m, (Lit.int .i64 n).wf = true) (w2 : (Lit.int .i64 fr).wf = true) (w3 : (Lit.int .i64 tu).wf = true) :
    Calls Try.prog 6 #[.slice a0 l.length c0, .slice a1 m.length c1, .int .i64 fr, .int .i64 tu] w fun e w' => e = .returned (.bool true) ∧ Below w.heap.size w w' := by
  have HB := Lib.hid (Below.refl w.heap.size w)
  have HIl := Lib.hid (show Rd w w.heap.size 1 a0 l.length (ints l) from r0)
  have HMl := Lib.hid m0
  clear r0 m0 f0
  have HIm := Lib.hid (show Rd w w.heap.size 1 a1 m.length (ints m) from r1)
  have HMm := Lib.hid m1
  clear r1 m1 f1
  clear w2 w3
  go_enter Try.func6, Try.ntmps6
  go_wp2_with fail
  refine (mk_any a0 c0 l _ ((HIl.out).more (by omega)) HMl.out).mono ?_
  intro e w1 hret
  obtain ⟨AA, cA, rfl, hr, hb⟩ := hret.get
  clear hret
  have hsz1 := hb.size
  replace HIl := Lib.hid (HIl.out.below (hb.mono (by omega)))
  replace HIm := Lib.hid (HIm.out.below (hb.mono (by omega)))
  have HA := Lib.hid hr
  clear hr
  replace HB := Lib.hid (below_step HB.out hb)
  clear hb
  go_wp2_with fail
  refine (mk_any a1 c1 m _ ((HIm.out).more (by omega)) HMm.out).mono ?_
  intro e w2 hret
  obtain ⟨AC, cC, rfl, hr, hb⟩ := hret.get
  clear hret
  have hsz2 := hb.size
  replace HIl := Lib.hid (HIl.out.below (hb.mono (by omega)))
  replace HIm := Lib.hid (HIm.out.below (hb.mono (by omega)))
  replace HA := Lib.hid (HA.out.below (hb.mono (by omega)))
  have HC := Lib.hid hr
  clear hr
  replace HB := Lib.hid (below_step HB.out hb)
  clear hb
  have la := Rg.mk_len l; have lb := Rg.mk_len m
  generalize hal : Rg.mk l = a at *
  generalize hbm : Rg.mk m = b at *
  have HAL := Lib.hid hal; have HBM := Lib.hid hbm; clear hal hbm
  go_wp2_with fail
  refine (pick_any fr 50 (by omega) (by omega) _).mono ?_
  rintro e w101 ⟨rfl, hpw⟩
  subst hpw
  have x_lo := Kp.pick_lo fr 50 (by omega)
  have x_hi := Kp.pick_hi fr 50 (by omega)
  generalize Kp.pick fr 50 = x at *
  go_wp2_with fail
  refine (pick_any tu 9 (by omega) (by omega) _).mono ?_
  rintro e w101 ⟨rfl, hpw⟩
  subst hpw
  have p_lo := Kp.pick_lo tu 9 (by omega)
  have p_hi := Kp.pick_hi tu 9 (by omega)
  generalize Kp.pick tu 9 = p at *
  have hs1 := Rg.setP_len a x (x + p) 1; have hs2 := Rg.clearP_len a x (x + p); have hs3 := Rg.overP_len a b; have hs4 := Rg.normP_len a
  have HPT := Lib.hid (show Kp.pick tu 9 = Kp.pick tu 9 from rfl)
  go_wp2_with fail
  refine (set_any AA cA a x (x + p) 1 w1.heap.size _ HA.out (by omega) (by omega)).mono ?_
  rintro e w3 ⟨AS, cS, rfl, ho, hb⟩
  have hsz3 := hb.size
  replace HIl := Lib.hid (HIl.out.below (hb.mono (by omega)))
  replace HIm := Lib.hid (HIm.out.below (hb.mono (by omega)))
  replace HA := Lib.hid (HA.out.below (hb.mono (by omega)))
  replace HC := Lib.hid (HC.out.below (hb.mono (by omega)))
  have HRS := Lib.hid ((WRow.of_own ho).low (show w2.heap.size ≤ w2.heap.size by omega))
  replace HB := Lib.hid (below_step HB.out hb)
  clear ho hb
  generalize (Rg.setP a x (x + p) 1).1.length = nS at *
  generalize (Rg.setP a x (x + p) 1).2 = eS at *
  go_wp2_with fail
  refine (pick_any tu 9 (by omega) (by omega) _).mono ?_
  rintro e w98 ⟨rfl, hpw⟩
  subst hpw
  have p2_lo := Kp.pick_lo tu 9 (by omega)
  have p2_hi := Kp.pick_hi tu 9 (by omega)
  generalize Kp.pick tu 9 = p2 at *
  replace hs2 := Rg.clearP_len a x (x + p2)
  go_wp2_with fail
  refine (clear_any AA cA a x (x + p2) w1.heap.size _ HA.out (by omega) (by omega)).mono ?_
  rintro e w4 ⟨AT, cT, rfl, ho, hb⟩
  have hsz4 := hb.size
  replace HIl := Lib.hid (HIl.out.below (hb.mono (by omega)))
  replace HIm := Lib.hid (HIm.out.below (hb.mono (by omega)))
  replace HA := Lib.hid (HA.out.below (hb.mono (by omega)))
  replace HC := Lib.hid (HC.out.below (hb.mono (by omega)))
  replace HRS := Lib.hid (HRS.out.below hb (Nat.le_refl _) hb.size)
  have HRT := Lib.hid ((WRow.of_own ho).low (show w2.heap.size ≤ w3.heap.size by omega))
  replace HB := Lib.hid (below_step HB.out hb)
  clear ho hb
  generalize (Rg.clearP a x (x + p2)).1.length = nT at *
  generalize (Rg.clearP a x (x + p2)).2 = eT at *
  go_wp2_with fail
  refine (over_any AA cA a AC cC b w2.heap.size _ ((HA.out).more (by omega)) HC.out (by omega) (by omega) (by omega)).mono ?_
  rintro e w5 ⟨AO, cO, rfl, ho, hb⟩
  have hsz5 := hb.size
  replace HIl := Lib.hid (HIl.out.below (hb.mono (by omega)))
  replace HIm := Lib.hid (HIm.out.below (hb.mono (by omega)))
  replace HA := Lib.hid (HA.out.below (hb.mono (by omega)))
  replace HC := Lib.hid (HC.out.below (hb.mono (by omega)))
  replace HRS := Lib.hid (HRS.out.below hb (Nat.le_refl _) hb.size)
  replace HRT := Lib.hid (HRT.out.below hb (Nat.le_refl _) hb.size)
  have HRO := Lib.hid ((WRow.of_own ho).low (show w2.heap.size ≤ w4.heap.size by omega))
  replace HB := Lib.hid (below_step HB.out hb)
  clear ho hb
  generalize (Rg.overP a b).1.length = nO at *
  generalize (Rg.overP a b).2 = eO at *
  go_wp2_with fail
  refine (normal_any AA cA a w1.heap.size _ HA.out (by omega) (by omega)).mono ?_
  rintro e w6 ⟨AN, cN, rfl, ho, hb⟩
  have hsz6 := hb.size
  replace HIl := Lib.hid (HIl.out.below (hb.mono (by omega)))
  replace HIm := Lib.hid (HIm.out.below (hb.mono (by omega)))
  replace HA := Lib.hid (HA.out.below (hb.mono (by omega)))
  replace HC := Lib.hid (HC.out.below (hb.mono (by omega)))
  replace HRS := Lib.hid (HRS.out.below hb (Nat.le_refl _) hb.size)
  replace HRT := Lib.hid (HRT.out.below hb (Nat.le_refl _) hb.size)
  replace HRO := Lib.hid (HRO.out.below hb (Nat.le_refl _) hb.size)
  have HRN := Lib.hid ((WRow.of_own ho).low (show w2.heap.size ≤ w5.heap.size by omega))
  replace HB := Lib.hid (below_step HB.out hb)
  clear ho hb
  generalize (Rg.normP a).length = nN at *
  go_wp2_with fail
  have hw7 : (w6.alloc (.cells #[.slice AS nS cS, .slice AT nT cT, .slice AO nO cO, .slice AN nN cN] 23)).heap.size = w6.heap.size + 1 := by simp
  have hbk := Bk.new w6 23 #[.slice AS nS cS, .slice AT nT cT, .slice AO nO cO, .slice AN nN cN]
  have hb67 : Below w6.heap.size w6 (w6.alloc (.cells #[.slice AS nS cS, .slice AT nT cT, .slice AO nO cO, .slice AN nN cN] 23)) := (Below.refl _ w6).alloc (Nat.le_refl _) _
  generalize w6.alloc (.cells #[.slice AS nS cS, .slice AT nT cT, .slice AO nO cO, .slice AN nN cN] 23) = w7 at *
  have hrow : ∀ k, k < 4 → ∃ (A : Option Addr) (n c : Nat), w7.cell? ⟨w6.heap.size, k, none⟩ = some (.slice A n c) ∧ n ≤ 256 ∧ WRow w7 w2.heap.size w6.heap.size A n := by
    intro k hk
    have hc := (hbk.cell k).trans (four_at _ _ _ _ k hk)
    have h0 : k = 0 ∨ k = 1 ∨ k = 2 ∨ k = 3 := by omega
    rcases h0 with rfl | rfl | rfl | rfl
    · exact ⟨_, _, _, hc, hs1, HRS.out.below hb67 (Nat.le_refl _) (Nat.le_refl _)⟩
    · exact ⟨_, _, _, hc, hs2, HRT.out.below hb67 (Nat.le_refl _) (Nat.le_refl _)⟩
    · exact ⟨_, _, _, hc, hs3, HRO.out.below hb67 (Nat.le_refl _) (Nat.le_refl _)⟩
    · exact ⟨_, _, _, hc, hs4, HRN.out.below hb67 (Nat.le_refl _) (Nat.le_refl _)⟩
  have HROW := Lib.hid hrow
  have HB7 := Lib.hid (HB.out.trans (hb67.mono (by omega)))
  have HA7 := Lib.hid (HA.out.below (hb67.mono (by omega)))
  have HC7 := Lib.hid (HC.out.below (hb67.mono (by omega)))
  have HI7 := Lib.hid (HIl.out.below (hb67.mono (by omega)))
  have HJ7 := Lib.hid (HIm.out.below (hb67.mono (by omega)))
  clear hrow hbk hb67 HRS HRT HRO HRN HA HC HIl HIm HB
  go_loopw [62] (fun i wr => ∃ k : Nat, k ≤ 4 ∧ i = .int .i64 k ∧ Alk w2.heap.size w6.heap.size w7 wr) (fun i _ => 4 - (intOf i).toNat)
  case atStart => exact ⟨0, by omega, rfl, Alk.refl _ _ _⟩
  case round =>
    obtain ⟨k, hk, rfl, ha⟩ := hrel
    have HK := Lib.hid ha; clear ha
    by_cases hlt : k < 4
    · obtain ⟨A', n', c', hcell, hn', hrow⟩ := HROW.out k hlt
      have hcell' : wr.cell? ⟨w6.heap.size, k, none⟩ = some (.slice A' n' c') := (World.cell?_of_block (w := w7) (a := ⟨w6.heap.size, k, none⟩) (HK.out.same w6.heap.size (.inr (Nat.le_refl _)))).trans hcell
      have HW := Lib.hid hrow; have HCL := Lib.hid hcell
      clear hrow hcell
      go_wp2_with fail
      go_loopw [68] (fun i wr2 => ∃ j : Nat, j ≤ n' ∧ i = .int .i64 j ∧ Alk w2.heap.size w6.heap.size w7 wr2) (fun i _ => n' - (intOf i).toNat)
      case atStart => exact ⟨0, by omega, rfl, HK.out⟩
      case round =>
        obtain ⟨j, hj, rfl, ha2⟩ := hrel
        have HK2 := Lib.hid ha2; clear ha2 hcell'
        by_cases hlt2 : j < n'
        · obtain ⟨g, cs, t, rfl, hg1, hg2, hcs, hcl⟩ := HW.out (by omega)
          obtain ⟨cs', hcs', hcl'⟩ := HK2.out.live g cs t hcs
          have hbk : Bk wr g t cs' := hcs'
          have hx0 : j * 3 < cs'.size := by omega
          have hx1 : j * 3 + 1 < cs'.size := by omega
          have hx2 : j * 3 + 2 < cs'.size := by omega
          obtain ⟨v0, q0⟩ : ∃ v0, wr.cell? ⟨g, j * 3, none⟩ = some v0 := ⟨cs'[j * 3], by rw [hbk.cell]; exact Array.getElem?_eq_getElem hx0⟩
          obtain ⟨v1, q1⟩ : ∃ v1, wr.cell? ⟨g, j * 3 + 1, none⟩ = some v1 := ⟨cs'[j * 3 + 1], by rw [hbk.cell]; exact Array.getElem?_eq_getElem hx1⟩
          obtain ⟨v2, q2⟩ : ∃ v2, wr.cell? ⟨g, j * 3 + 2, none⟩ = some v2 := ⟨cs'[j * 3 + 2], by rw [hbk.cell]; exact Array.getElem?_eq_getElem hx2⟩
          have z0 : wr.frozen? ⟨g, j * 3, none⟩ = false := hbk.frozen _
          have z1 : wr.frozen? ⟨g, j * 3 + 1, none⟩ = false := hbk.frozen _
          have z2 : wr.frozen? ⟨g, j * 3 + 2, none⟩ = false := hbk.frozen _
          have hji : (j : Int) < (n' : Int) := by omega
          clear hbk hcs' hcl' hcs hx0 hx1 hx2
          have HK3 := Lib.hid (((HK2.out.set hg1 hg2 (j * 3) (.int .i64 (-1))).set hg1 hg2 (j * 3 + 1) (.int .i64 0)).set hg1 hg2 (j * 3 + 2) (.int .i64 0))
          go_wp2
          go_roundw
          case rel => exact ⟨j + 1, by omega, by go_num, HK3.out⟩
          case measure => simp [intOf]; omega
        · go_wp2
          go_roundw
          case rel => exact ⟨k + 1, by omega, by go_num, HK2.out⟩
          case measure => simp [intOf]; omega
    · have hba := HK.out.below
      have hsw := HK.out.size
      have HB8 := Lib.hid (HB7.out.trans (hba.mono (by omega)))
      have HA8 := Lib.hid (HA7.out.below (hba.mono (by omega)))
      have HC8 := Lib.hid (HC7.out.below (hba.mono (by omega)))
      have HI8 := Lib.hid (HI7.out.below (hba.mono (by omega)))
      have HJ8 := Lib.hid (HJ7.out.below (hba.mono (by omega)))
      have hsr : w6.heap.size + 1 = wr.heap.size := by omega
      clear hba hsw HB7 HA7 HC7 HI7 HJ7 HROW HK hw7
      go_wp2_with fail
      refine (awake2_any wr).mono ?_
      rintro e u1 ⟨rfl, hb1⟩
      have hz1 := hb1.size
      replace HB8 := Lib.hid (HB8.out.trans (hb1.mono (by omega)))
      replace HA8 := Lib.hid (HA8.out.below (hb1.mono (by omega)))
      replace HC8 := Lib.hid (HC8.out.below (hb1.mono (by omega)))
      replace HI8 := Lib.hid (HI8.out.below (hb1.mono (by omega)))
      replace HJ8 := Lib.hid (HJ8.out.below (hb1.mono (by omega)))
      clear hb1
      go_wp2_with fail
      have hct := mk_any a0 c0 l u1 (HI8.out.more (by omega)) HMl.out
      rw [HAL.out] at hct
      refine hct.mono ?_
      clear hct
      intro e u2 hret
      obtain ⟨A9, c9, rfl, hr9, hb9⟩ := hret.get
      have hz2 := hb9.size
      replace HB8 := Lib.hid (HB8.out.trans (hb9.mono (by omega)))
      replace HA8 := Lib.hid (HA8.out.below (hb9.mono (by omega)))
      replace HC8 := Lib.hid (HC8.out.below (hb9.mono (by omega)))
      replace HJ8 := Lib.hid (HJ8.out.below (hb9.mono (by omega)))
      have HR9 := Lib.hid hr9
      clear hret hr9 hb9
      go_wp2_with fail
      refine (samesp_any AA A9 _ _ cA c9 a a u2.heap.size _ (HA8.out.more (by omega)) HR9.out rfl (by omega)).mono ?_
      rintro e u3 ⟨rfl, q3, rfl⟩
      replace HB8 := Lib.hid (below_drewN HB8.out q3)
      replace HC8 := Lib.hid (HC8.out.drewN q3)
      replace HJ8 := Lib.hid (HJ8.out.drewN q3)
      have hz3 : (u2.drewN q3).heap.size = u2.heap.size := rfl
      go_wp2_with fail
      generalize u2.drewN q3 = u3 at *
      have hct := mk_any a1 c1 m u3 (HJ8.out.more (by omega)) HMm.out
      rw [HBM.out] at hct
      refine hct.mono ?_
      clear hct
      intro e u4 hret
      obtain ⟨A10, c10, rfl, hr10, hb10⟩ := hret.get
      have hz4 := hb10.size
      replace HB8 := Lib.hid (HB8.out.trans (hb10.mono (by omega)))
      replace HC8 := Lib.hid (HC8.out.below (hb10.mono (by omega)))
      have HR10 := Lib.hid hr10
      clear hret hr10 hb10
      go_wp2_with fail
      refine (samesp_any AC A10 _ _ cC c10 b b u4.heap.size _ (HC8.out.more (by omega)) HR10.out rfl (by omega)).mono ?_
      rintro e u5 ⟨rfl, q5, rfl⟩
      go_wp2
      go_ret
      exact ⟨rfl, below_drewN HB8.out _⟩
end Go.Proofs.Ythdfhijahkfjdaa
