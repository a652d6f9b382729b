/- The walk of the document's Labels. -/
import Derived.Test.YtddlafcnfdohnaaDoorDLabels
namespace Go.Proofs.YtddlafcnfdohnaaDoor
open Go Go.RowKit
set_option linter.unusedVariables false

set_option maxHeartbeats 2000000 in
theorem rlabels_any (A : Option Addr) (c : Nat) (xs : List Int) (w : World) (hr : Rd w w.heap.size 1 A xs.length (ints xs)) (hl : xs.length ≤ 1099511627776) :
    Calls Tryd.prog 9 #[.slice A xs.length c] w (RetR (Sp.labels xs) w) := by
  have HR := Lib.hid hr; clear hr
  generalize hn : xs.length = n at *
  have HN := Lib.hid hn; clear hn
  generalize hB : w.heap.size = B at *
  have HBB := Lib.hid hB; clear hB
  go_enter Tryd.func9, Tryd.ntmps9
  go_wp2
  rw [HBB.out]
  go_loopw [3, 10] (fun vo i wr => ∃ (k : Nat) (vs : List Value) (Ao : Option Addr) (co : Nat) (Al : Option Addr) (cl K : Nat), k ≤ n ∧ i = .int .i64 k ∧ vo = .slice Ao (vs.length + 1) co ∧
      wr.ownsRow B 22 1 (.slice Ao (vs.length + 1) co) (vs.length + 1) (vs ++ [.slice Al (Sp.st (xs.take k)).2.length cl]) ∧ Rws wr B K vs (Sp.st (xs.take k)).1 ∧
      wr.ownsRow K 3 1 (.slice Al (Sp.st (xs.take k)).2.length cl) (Sp.st (xs.take k)).2.length (ints (Sp.st (xs.take k)).2) ∧ B ≤ K ∧ K ≤ wr.heap.size ∧ Below B w wr) (fun _ i _ => n - (intOf i).toNat)
  case atStart =>
    refine ⟨0, [], some ⟨B, 0, none⟩, 1, none, 0, B, by omega, rfl, rfl, ?_, ?_, ?_, by omega, ?_, ?_⟩
    · have := own_built w B 22 #[.slice none 0 0] 1 rfl (by decide) (by have := HBB.out; omega)
      rw [HBB.out] at this
      exact this
    · exact Rws.nil_ _ _ _
    · exact World.ownsRow_nil _ _ _ _
    · have := HBB.out; simp; omega
    · exact (Below.refl B w).alloc (by have := HBB.out; omega) _
  case round =>
    obtain ⟨k, vs, Ao, co, Al, cl, K, hk, rfl, rfl, ho, hrw, hol, hBK, hKw, hb⟩ := hrel
    have HO := Lib.hid ho; have HRW := Lib.hid hrw; have HOL := Lib.hid hol; have HBW := Lib.hid hb
    clear ho hrw hol hb
    have hstl := Sp.st_len (xs.take k)
    have hvl : vs.length ≤ k := by have := HRW.out.1; have h2 : (xs.take k).length ≤ k := by simp; omega
                                   omega
    clear hstl
    by_cases hlt : k < n
    · obtain ⟨b, off, u, rfl, _, hu, hcu⟩ := ints_cell (HR.out.below HBW.out) hlt
      have hts : xs.take (k + 1) = xs.take k ++ [u] := by
        obtain ⟨hk', rfl⟩ := List.getElem?_eq_some_iff.1 hu
        rw [List.take_succ_eq_append_getElem hk']
      have HTS := Lib.hid hts; clear hts hu
      by_cases h46 : u = 46
      · have hb46 : (u == 46) = true := by rw [beq_iff_eq]; exact h46
        obtain ⟨e1, e2⟩ := Sp.st_dot (xs.take k) u h46
        have E1 := Lib.hid e1; have E2 := Lib.hid e2; clear e1 e2 h46
        go_wp2_with (at_builtin; refine app_row (by rfl) _ _ rfl (base := B) rfl (HO.out.alloc _) rfl (rd_one_row wr (.slice none 0 0)) (slice_one none 0 0) (by omega) (by simp; have := HBW.out.size; have := HBB.out; omega) ?_)
        intro A2 c2 w2 ho2 hg2 _
        have hal : wr.grownBy (wr.alloc (.cells #[.slice none 0 0] 22)) none := only_alloc (only_refl _ _) _
        have hoa := HO.out.alloc (.cells #[.slice none 0 0] 22)
        have hla := HOL.out.alloc (.cells #[.slice none 0 0] 22)
        have hl2 := hla.kept hg2 (own_apart hla hoa (by decide))
        have hs2 : wr.heap.size + 1 ≤ w2.heap.size := by simpa using hg2.size
        have hrw2 := ((HRW.out.keep hal (fun q h => by cases h)).keep hg2 (fun q h => .inr (own_heap hoa q h))).snoc (K' := w2.heap.size) (by omega) (own_lower hl2 hBK) (fun q h => (hl2.lt q h).2)
        have hb2 := (HBW.out.alloc (by have := HBW.out.size; have := HBB.out; omega) (.cells #[.slice none 0 0] 22)).grown hg2 (by simp; have := HBW.out.size; have := HBB.out; omega) (fun q h => (hoa.lt q h).1)
        have HO2 := Lib.hid ho2; have HRW2 := Lib.hid hrw2; have HB2 := Lib.hid hb2
        clear ho2 hg2 hal hoa hla hl2 hrw2 hb2
        go_wp2
        go_roundw
        case rel =>
          refine ⟨k + 1, vs ++ [.slice Al (Sp.st (xs.take k)).2.length cl], A2, c2, none, 0, w2.heap.size, by omega, by go_num, by simp, ?_⟩
          rw [HTS.out, E1.out, E2.out, List.length_append]
          exact ⟨by rw [List.append_assoc]; exact HO2.out, HRW2.out, World.ownsRow_nil _ _ _ _, by have := HBB.out; have := HBW.out.size; omega, Nat.le_refl _, HB2.out⟩
        case measure => simp [intOf]; omega
      · have hb46 : (u == 46) = false := by rw [beq_eq_false_iff_ne]; exact h46
        obtain ⟨e1, e2⟩ := Sp.st_char (xs.take k) u h46
        have E1 := Lib.hid e1; have E2 := Lib.hid e2; clear e1 e2 h46
        have hlast := Sp.st_last (xs.take k)
        have hll : (Sp.st (xs.take k)).2.length ≤ k := by have h2 : (xs.take k).length ≤ k := by simp; omega
                                                          omega
        clear hlast
        obtain ⟨go, rfl, hgo, hgolt, hcap, hoc, hof⟩ := own_at HO.out (by omega)
        have hc1 : wr.cell? ⟨go, vs.length, none⟩ = some (.slice Al (Sp.st (xs.take k)).2.length cl) := hoc vs.length _ (by simp)
        clear hoc hof hcap
        have e0 : ((vs.length : Int) + 1 - 1) = (vs.length : Int) := by omega
        have hBw : B ≤ wr.heap.size := by have := HBW.out.size; have := HBB.out; omega
        go_wp2_with (at_builtin; refine app_int (by rfl) _ _ rfl (base := wr.heap.size) (xs := []) rfl (World.ownsRow_nil _ _ _ _) rfl (Rd.of_own HOL.out) (by omega) (Nat.le_refl _) ?_)
        intro A1 c1 w1 ho1 hg1 _
        try simp only [List.nil_append, Nat.zero_add] at ho1
        try simp only [Nat.zero_add]
        have hoa1 := HO.out.kept hg1 (.inr (by simp [Value.ownBlock]))
        have hs1 : wr.heap.size ≤ w1.heap.size := hg1.size
        go_wp2_with (at_builtin; refine app_int (by rfl) _ _ rfl (base := wr.heap.size) rfl (ho1.alloc _) rfl (rd_one w1 u) (by omega) (by simp; omega) ?_)
        intro A2 c2 w2 hl2' hg2 _
        have hoa := hoa1.alloc (.cells #[.int .i64 u] 3)
        have hla := ho1.alloc (.cells #[.int .i64 u] 3)
        have hal : w1.grownBy (w1.alloc (.cells #[.int .i64 u] 3)) none := only_alloc (only_refl _ _) _
        have ho2 := hoa.kept hg2 (own_apart hoa hla (by decide))
        have hrw2 := ((HRW.out.keep hg1 (fun q h => by simp [Value.ownBlock] at h)).keep hal (fun q h => by cases h)).keep hg2 (fun q h => .inl (Nat.le_trans hKw (hla.lt q h).1))
        have hs2 : w1.heap.size + 1 ≤ w2.heap.size := by simpa using hg2.size
        have hb2 := ((HBW.out.grown hg1 hBw (fun q h => by simp [Value.ownBlock] at h)).alloc (by omega) (.cells #[.int .i64 u] 3)).grown hg2 (by simp; omega) (fun q h => by have := (hla.lt q h).1; omega)
        have hl2 := own_lower hl2' hKw
        clear hl2'
        have hst := ho2.stored vs.length (.slice A2 ((Sp.st (xs.take k)).2.length + 1) c2)
        rw [set_snoc] at hst
        have hl3 := hl2.kept hst.2 (by
          rcases own_apart hl2 ho2 (by decide) with h | h
          · exact .inl h
          · exact .inr (by simpa [Value.ownBlock] using h))
        have hrw3 := hrw2.keep hst.2 (fun q h => .inr (own_heap ho2 q (by simpa [Value.ownBlock] using h)))
        have hb3 := hb2.setCell (p := ⟨go, vs.length, none⟩) hgo (.slice A2 ((Sp.st (xs.take k)).2.length + 1) c2)
        have hc2 : w2.cell? ⟨go, vs.length, none⟩ = some (.slice Al (Sp.st (xs.take k)).2.length cl) := by
          obtain ⟨g', hA, _, _, _, hoc, _⟩ := own_at ho2 (by omega)
          injection hA with hA; injection hA with hA _; subst hA
          exact hoc vs.length _ (by simp)
        have hf2 : w2.frozen? ⟨go, vs.length, none⟩ = false := by
          obtain ⟨g', hA, _, _, _, _, hof⟩ := own_at ho2 (by omega)
          injection hA with hA; injection hA with hA _; subst hA
          exact hof vs.length
        have HO3 := Lib.hid hst.1; have HRW3 := Lib.hid hrw3; have HL3 := Lib.hid hl3; have HB3 := Lib.hid hb3
        clear hoa hla hal ho2 hrw2 hb2 hst hl3 hrw3 hb3 hl2 hg2 hoa1 ho1 hg1
        go_wp2
        go_roundw
        case rel =>
          refine ⟨k + 1, vs, some ⟨go, 0, none⟩, co, A2, c2, K, by omega, by go_num, rfl, ?_⟩
          rw [HTS.out, E1.out, E2.out, List.length_append]
          exact ⟨HO3.out, HRW3.out, HL3.out, hBK, by simp; omega, HB3.out⟩
        case measure => simp [intOf]; omega
    · have hkn : k = n := by omega
      have htk : xs.take k = xs := List.take_of_length_le (by have := HN.out; omega)
      have HTK := Lib.hid htk; clear hkn htk
      have hlen : (Sp.labels xs).length = vs.length + 1 := by
        unfold Sp.labels; rw [List.length_append, HRW.out.1, HTK.out]; rfl
      have HLEN := Lib.hid hlen; clear hlen
      go_wp2
      go_ret
      have hl := HOL.out; have hr := HRW.out; have ho := HO.out
      rw [HTK.out] at hl hr ho
      have hfin := hr.snoc (K' := wr.heap.size) hKw (own_lower hl hBK) (fun q h => (hl.lt q h).2)
      refine ⟨Ao, co, vs ++ [.slice Al (Sp.st xs).2.length cl], ?_, ?_, ?_, ?_⟩
      · rw [HLEN.out]; rfl
      · rw [HLEN.out, HBB.out]; exact ho
      · rw [HBB.out]; exact hfin
      · rw [HBB.out]; exact HBW.out
end Go.Proofs.YtddlafcnfdohnaaDoor
