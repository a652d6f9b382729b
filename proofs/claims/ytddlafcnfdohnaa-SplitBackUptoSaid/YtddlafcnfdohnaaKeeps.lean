/- The walk of the law that Labels and Join share no memory with what they were given. -/
import Derived.Test.YtddlafcnfdohnaaSpAwake
import Derived.Test.YtddlafcnfdohnaaPoints
namespace Go.Proofs.Ytddlafcnfdohnaa
open Go Go.RowKit
set_option linter.unusedVariables false

theorem Sp.total_le (l : List (List Int)) : Sp.total l ≤ (Sp.join l).length + 1 := by
  cases l with
  | nil => simp [Sp.total]
  | cons a r =>
    have : ∀ r : List (List Int), (r.flatMap (fun y => (46 : Int) :: y)).length = Sp.total r := by
      intro r; induction r with
      | nil => rfl
      | cons b r ih => simp [Sp.total] at ih ⊢; omega
    simp [Sp.join, this, Sp.total]; omega
theorem Sp.total_labels (xs : List Int) : Sp.total (Sp.labels xs) ≤ xs.length + 1 := by
  have := Sp.total_le (Sp.labels xs); rwa [Sp.join_labels] at this
theorem Sp.labels_le (xs : List Int) : (Sp.labels xs).length ≤ xs.length + 1 := by
  rw [Sp.labels_length]; have := Sp.dots_le xs; omega

/-- Only cells of the blocks from b1 to b2 have turned, block go aside; the blocks are as large as they were. -/
structure Alk (b1 b2 go : Nat) (a w : World) : Prop where
  os : w.os = a.os
  tape : w.tape = a.tape
  output : w.output = a.output
  size : w.heap.size = a.heap.size
  same : ∀ q : Nat, q < b1 ∨ b2 ≤ q ∨ q = go → w.heap[q]? = a.heap[q]?
  live : ∀ (q : Nat) (cs : Array Value) (t : TypeId), a.heap[q]? = some (.cells cs t (0, 0)) → ∃ cs' : Array Value, w.heap[q]? = some (.cells cs' t (0, 0)) ∧ cs'.size = cs.size
theorem Alk.refl (b1 b2 go : Nat) (w : World) : Alk b1 b2 go w w := ⟨rfl, rfl, rfl, rfl, fun _ _ => rfl, fun q cs t h => ⟨cs, h, rfl⟩⟩
theorem Alk.set {b1 b2 go : Nat} {a w : World} (h : Alk b1 b2 go a w) {g : Nat} (h1 : b1 ≤ g) (h2 : g < b2) (h3 : g ≠ go) (i : Nat) (u : Value) : Alk b1 b2 go a (w.setCell ⟨g, i, none⟩ u) := by
  refine ⟨h.os, h.tape, h.output, by have := h.size; simpa [World.setCell] using this, fun q hq => ?_, fun q cs t hh => ?_⟩
  · rw [Below.heap_setCell w ⟨g, i, none⟩ u q (by show q ≠ g; rcases hq with hq | hq | hq <;> omega)]
    exact h.same q hq
  · obtain ⟨cs', k1, k2⟩ := h.live q cs t hh
    by_cases e : q = g
    · subst e
      have := Bk.set_ (w := w) (g := q) (t := t) (cs := cs') k1 i u
      exact ⟨_, this, by simpa using k2⟩
    · exact ⟨cs', by rw [Below.heap_setCell w ⟨g, i, none⟩ u q e]; exact k1, k2⟩
theorem Alk.below {b1 b2 go : Nat} {a w : World} (h : Alk b1 b2 go a w) : Below b1 a w := ⟨h.os, h.tape, h.output, by rw [h.size]; exact Nat.le_refl _, fun k hk => h.same k (.inl hk)⟩

/-- Row i of rows that the call has made: its cell, and where it may be written. -/
theorem row_live {b1 : Nat} {a : World} {A : Option Addr} {c : Nat} {vs : List Value} {yss : List (List Int)} {K : Nat} (ho : a.ownsRow b1 30 1 (.slice A yss.length c) yss.length vs) (hr : Rws a b1 K vs yss)
    {i : Nat} (hi : i < yss.length) :
    ∃ go A' c', A = some ⟨go, 0, none⟩ ∧ go < a.heap.size ∧ a.cell? ⟨go, i, none⟩ = some (.slice A' yss[i].length c') ∧
      (0 < yss[i].length → ∃ g, A' = some ⟨g, 0, none⟩ ∧ b1 ≤ g ∧ g < K ∧ g ≠ go ∧ ∃ cs, a.heap[g]? = some (.cells cs 3 (0, 0)) ∧ yss[i].length ≤ cs.size ∧ cs.size ≤ maxLen) := by
  obtain ⟨go, rfl, _, hgl, _, hcells, _⟩ := own_at ho (by omega)
  obtain ⟨A', c', h1, h2, h3⟩ := hr.2 i yss[i] (List.getElem?_eq_getElem hi)
  refine ⟨go, A', c', rfl, hgl, hcells i _ h1, fun hpos => ?_⟩
  rcases h2.2 with ⟨_, h0⟩ | ⟨g, cap, cur, hv, hb, hh, hnc, hm, hs, _⟩
  · omega
  · injection hv with hA hl hc
    subst hA
    have hgK := h3 g (by simp [Value.ownBlock])
    refine ⟨g, rfl, hb, hgK, ?_, cur, hh, by rw [hs]; omega, by rw [hs]; omega⟩
    rintro rfl
    obtain ⟨cs, hcs⟩ := own_heap ho g (by simp [Value.ownBlock])
    rw [hh] at hcs; injection hcs with hcs; injection hcs with _ ht; exact absurd ht (by decide)

set_option maxHeartbeats 4000000 in
theorem walk_SplitKeeps (a0 : Option Addr) (c0 : Nat) (x0 : List Int) (w : World) (r0 : Rd w w.heap.size 1 a0 x0.length (intsK .i64 x0)) (m0 : x0.length ≤ maxLen) (f0 : ∀ n ∈ x0, (Lit.int .i64 n).wf = true) :
    Calls Try.prog 5 #[.slice a0 x0.length c0] w fun e w' => e = .returned (.bool true) ∧ Below w.heap.size w w' := by
  have HR := Lib.hid (show Rd w w.heap.size 1 a0 x0.length (ints x0) from r0); have HM := Lib.hid m0
  clear r0 m0 f0
  go_enter Try.func5, Try.ntmps5
  go_wp2_with fail
  refine (points_any _ _ _ _ HR.out HM.out).mono ?_
  have hpl := pts_length x0
  rintro e w1 ⟨A1, c1, rfl, ho1, hb1⟩
  have hm1 : Rd w1 w1.heap.size 1 A1 (pts x0).length (ints (pts x0)) := Rd.of_own ho1
  have HR1 := Lib.hid hm1; have HB1 := Lib.hid hb1; clear ho1 hm1 hb1
  generalize hP : pts x0 = P at *
  have HP := Lib.hid hP; clear hP
  go_wp2_with fail
  refine (labels_any _ _ P _ HR1.out (by omega)).mono ?_
  rintro e w2 ⟨A2, c2, vs, rfl, ho2, hrw2, hb2⟩
  have hrr := rdr_of ho2 hrw2
  have HO2 := Lib.hid ho2; have HW2 := Lib.hid hrw2; have HB2 := Lib.hid hb2; have HRR := Lib.hid hrr
  clear ho2 hrw2 hb2 hrr
  have hll := Sp.labels_le P
  have htl := Sp.total_labels P
  have hjl := Sp.join_labels P
  go_wp2_with fail
  refine (join_any _ _ (Sp.labels P) _ _ HRR.out (Nat.le_refl _) (by omega) (by unfold maxLen; omega)).mono ?_
  rw [hjl]
  rintro e w3 ⟨A3, c3, rfl, ho3, hb3⟩
  have hsz3 := hb3.size
  have hsz2 := HB2.out.size
  have hsz1 := HB1.out.size
  generalize hyss : Sp.labels P = yss at *
  clear hyss hjl htl
  have hg23 := only_below (only_refl w2 none) hb3
  have ho2' : w3.ownsRow w1.heap.size 30 1 (.slice A2 yss.length c2) yss.length vs := HO2.out.kept hg23 (by cases (Value.slice A2 yss.length c2).ownBlock <;> simp)
  have hw2' := HW2.out.keep hg23 (fun q hq => by cases hq)
  have hmy : Rd w3 w3.heap.size 1 A3 P.length (ints P) := Rd.of_own ho3
  have HY := Lib.hid hmy; have HO3 := Lib.hid ho3
  have HB3 := Lib.hid hb3
  have HOW := Lib.hid (show w3.ownsRow w1.heap.size 30 1 (.slice A2 yss.length c2) yss.length vs ∧ Rws w3 w1.heap.size w2.heap.size vs yss from ⟨ho2', hw2'⟩)
  clear ho2' hw2' hmy ho3 hg23 hb3 HO2 HW2 HRR
  obtain ⟨go, hgo⟩ : ∃ go, ∀ i, i < yss.length → ∃ A' c', A2 = some ⟨go, 0, none⟩ ∧ go < w3.heap.size ∧ w3.cell? ⟨go, i, none⟩ = some (.slice A' (yss.getD i []).length c') ∧
      (0 < (yss.getD i []).length → ∃ g, A' = some ⟨g, 0, none⟩ ∧ w1.heap.size ≤ g ∧ g < w2.heap.size ∧ g ≠ go ∧ ∃ cs, w3.heap[g]? = some (.cells cs 3 (0, 0)) ∧ (yss.getD i []).length ≤ cs.size ∧ cs.size ≤ maxLen) := by
    by_cases h0 : 0 < yss.length
    · obtain ⟨go, _, _, h1, _⟩ := row_live HOW.out.1 HOW.out.2 h0
      refine ⟨go, fun i hi => ?_⟩
      obtain ⟨go', A', c', h1', h2, h3, h4⟩ := row_live HOW.out.1 HOW.out.2 hi
      have : go' = go := by rw [h1] at h1'; injection h1' with h1'; injection h1' with h1' _; exact h1'.symm
      subst this
      have hgd : yss.getD i [] = yss[i] := by rw [List.getD_eq_getElem?_getD, List.getElem?_eq_getElem hi]; rfl
      rw [hgd]
      exact ⟨A', c', h1', h2, h3, h4⟩
    · exact ⟨0, fun i hi => absurd hi (by omega)⟩
  have HGO := Lib.hid hgo; clear hgo
  generalize hny : yss.length = ny at *
  have hnys : ny ≤ 11 := by omega
  clear hll
  go_wp2_with fail
  go_loopw [16] (fun i wr => ∃ k : Nat, k ≤ ny ∧ i = .int .i64 k ∧ Alk w1.heap.size w2.heap.size go w3 wr) (fun i _ => ny - (intOf i).toNat)
  case atStart => exact ⟨0, by omega, rfl, Alk.refl _ _ _ _⟩
  case round =>
    obtain ⟨k, hk, rfl, ha⟩ := hrel
    have HA := Lib.hid ha; clear ha
    by_cases hlt : k < ny
    · obtain ⟨A', c', rfl, hgl, hcell, hlive⟩ := HGO.out k hlt
      have hcell' : wr.cell? ⟨go, k, none⟩ = some (.slice A' (yss.getD k []).length c') := (World.cell?_of_block (w := w3) (a := ⟨go, k, none⟩) (HA.out.same go (.inr (.inr rfl)))).trans hcell
      generalize hnr : (yss.getD k []).length = nr at *
      have HL := Lib.hid hlive; have HC := Lib.hid hcell
      clear hlive hcell hnr
      go_wp2_with fail
      go_loopw [24] (fun i wr2 => ∃ j : Nat, j ≤ nr ∧ i = .int .i64 j ∧ Alk w1.heap.size w2.heap.size go w3 wr2) (fun i _ => nr - (intOf i).toNat)
      case atStart => exact ⟨0, by omega, rfl, HA.out⟩
      case round =>
        obtain ⟨j, hj, rfl, ha2⟩ := hrel
        have HA2 := Lib.hid ha2; clear ha2
        by_cases hlt2 : j < nr
        · obtain ⟨g, rfl, hg1, hg2, hg3, cs, hcs, hcl, hcm⟩ := HL.out (by omega)
          obtain ⟨cs', hcs', hcl'⟩ := HA2.out.live g cs _ hcs
          have hce : wr.cell? ⟨go, k, none⟩ = some (.slice (some ⟨g, 0, none⟩) nr c') := (World.cell?_of_block (w := w3) (a := ⟨go, k, none⟩) (HA2.out.same go (.inr (.inr rfl)))).trans HC.out
          have hbk : Bk wr g 3 cs' := hcs'
          obtain ⟨v0, hcv⟩ : ∃ v0, wr.cell? ⟨g, j, none⟩ = some v0 := ⟨cs'[j], by rw [hbk.cell]; exact Array.getElem?_eq_getElem (by omega)⟩
          have hfr : wr.frozen? ⟨g, j, none⟩ = false := hbk.frozen j
          have HA3 := Lib.hid (HA2.out.set hg1 hg2 hg3 j (.int .i64 (-1)))
          unfold maxLen at hcm
          clear hbk hcs' hcl' hcs hcell'
          go_wp2
          go_roundw
          case rel => exact ⟨j + 1, by omega, by go_num, HA3.out⟩
          case measure => simp [intOf]; omega
        · go_wp2
          go_roundw
          case rel => exact ⟨k + 1, by omega, by go_num, HA2.out⟩
          case measure => simp [intOf]; omega
    · clear HGO
      go_wp2_with fail
      refine (awake12_any _).mono ?_
      rintro e w4 ⟨rfl, hb4⟩
      have hba := HA.out.below
      have hsa := HA.out.size
      have hsz4 := hb4.size
      have HB04 := Lib.hid (((HB1.out.trans (HB2.out.mono hsz1)).trans (HB3.out.mono (by omega))).trans (hba.mono (by omega)) |>.trans (hb4.mono (by omega)))
      have hr1 : Rd w4 w1.heap.size 1 A1 P.length (ints P) := (((HR1.out.below HB2.out).below (HB3.out.mono (by omega))).below hba).below (hb4.mono (by omega))
      have hy4 : Rd w4 w4.heap.size 1 A3 P.length (ints P) := by
        refine Rd.more ?_ hsz4
        refine Rd.below ?_ hb4
        refine ⟨HY.out.1, fun hn => ?_⟩
        have hn' : 0 < P.length := by rw [ints_length] at hn; exact hn
        obtain ⟨gy, rfl, h1, h2, _, hc, _⟩ := own_at HO3.out hn'
        exact ⟨gy, 0, rfl, by rw [hsa]; exact h2, fun j u hu => (World.cell?_of_block (w := w3) (a := ⟨gy, 0 + j, none⟩) (HA.out.same gy (.inr (.inl h1)))).trans (by simpa using hc j u hu)⟩
      have HR4 := Lib.hid hr1; have HY4 := Lib.hid hy4
      clear hba hr1 hy4 hb4
      go_wp2_with fail
      refine (points_any _ _ _ _ ((HR.out.below HB04.out).more (by omega)) HM.out).mono ?_
      rw [HP.out]
      rintro e w5 ⟨A5, c5, rfl, ho5, hb5⟩
      have hsz5 := hb5.size
      have HR5 := Lib.hid ((HR4.out.more (by omega)).below hb5)
      have HY5 := Lib.hid (HY4.out.below hb5)
      have HO5 := Lib.hid (Rd.of_own ho5)
      have HB05 := Lib.hid (HB04.out.trans (hb5.mono (by omega)))
      clear ho5 hb5
      go_wp2_with fail
      refine (same_ok _ _ _ _ _ _ P P w5.heap.size _ (HR5.out.more (by omega)) HO5.out (by unfold maxLen; omega) (by unfold maxLen; omega) rfl).mono ?_
      rintro e w6 ⟨rfl, m6, rfl⟩
      go_wp2_with fail
      refine (same_ok _ _ _ _ _ _ P P w5.heap.size _ ((HY5.out.more (by omega)).drewN m6) ((HR5.out.more (by omega)).drewN m6) (by unfold maxLen; omega) (by unfold maxLen; omega) rfl).mono ?_
      rintro e w7 ⟨rfl, m7, rfl⟩
      go_wp2
      go_ret
      exact ⟨rfl, below_drewN HB05.out _⟩
end Go.Proofs.Ytddlafcnfdohnaa
