/- The walks of split.Labels and split.Join, and of the check of labels in ASCII form. -/
import Derived.Test.YtddieenjdaociaaGreatDoorTpRwsZ
import Derived.Test.YtddieenjdaociaaGreatDoorM01
import Derived.Deep.RegionWith
import Derived.Deep.OwnRows
import Derived.Laws.Strings
namespace Go.Proofs.YtddieenjdaociaaGreatDoor
open Go Go.RowKit
set_option linter.unusedVariables false

theorem slice_one (A : Option Addr) (n c : Nat) : ∀ u ∈ [Value.slice A n c], u.oneCell' = true := by intro u hu; simp at hu; subst hu; rfl
/-- What a slice literal of one row reads as. -/
theorem rd_one_row (w : World) (v : Value) : Rd (w.alloc (.cells #[v] 28)) (w.heap.size + 1) 1 (some ⟨w.heap.size, 0, none⟩) 1 [v] := by
  have := Rd.of_own (own_built w 0 28 #[v] 1 rfl (by decide) (Nat.zero_le _))
  simpa using this

set_option maxHeartbeats 2000000 in
theorem labels_any (A : Option Addr) (c : Nat) (xs : List Int) (w : World) (hr : Rd w w.heap.size 1 A xs.length (ints xs)) (hl : xs.length ≤ 1099511627776) :
    Calls Tryz.prog 159 #[.slice A xs.length c] w (RetR (Sp.labels xs) w) := by
  have HR := Lib.hid hr; clear hr
  generalize hn : xs.length = n at *
  have HN := Lib.hid hn; clear hn
  generalize hB : w.heap.size = B at *
  have HBB := Lib.hid hB; clear hB
  go_enter Tryz.func159, Tryz.ntmps159
  go_wp2
  rw [HBB.out]
  go_loopw [3, 10] (fun vo i wr => ∃ (k : Nat) (vs : List Value) (Ao : Option Addr) (co : Nat) (Al : Option Addr) (cl K : Nat), k ≤ n ∧ i = .int .i64 k ∧ vo = .slice Ao (vs.length + 1) co ∧
      wr.ownsRow B 28 1 (.slice Ao (vs.length + 1) co) (vs.length + 1) (vs ++ [.slice Al (Sp.st (xs.take k)).2.length cl]) ∧ Rws wr B K vs (Sp.st (xs.take k)).1 ∧
      wr.ownsRow K 3 1 (.slice Al (Sp.st (xs.take k)).2.length cl) (Sp.st (xs.take k)).2.length (ints (Sp.st (xs.take k)).2) ∧ B ≤ K ∧ K ≤ wr.heap.size ∧ Below B w wr) (fun _ i _ => n - (intOf i).toNat)
  case atStart =>
    refine ⟨0, [], some ⟨B, 0, none⟩, 1, none, 0, B, by omega, rfl, rfl, ?_, ?_, ?_, by omega, ?_, ?_⟩
    · have := own_built w B 28 #[.slice none 0 0] 1 rfl (by decide) (by have := HBB.out; omega)
      rw [HBB.out] at this
      exact this
    · exact Rws.nil_ _ _ _
    · exact World.ownsRow_nil _ _ _ _
    · have := HBB.out; simp; omega
    · exact (Below.refl B w).alloc (by have := HBB.out; omega) _
  case round =>
    obtain ⟨k, vs, Ao, co, Al, cl, K, hk, rfl, rfl, ho, hrw, hol, hBK, hKw, hb⟩ := hrel
    have HO := Lib.hid ho; have HRW := Lib.hid hrw; have HOL := Lib.hid hol; have HBW := Lib.hid hb
    clear ho hrw hol hb
    have hstl := Sp.st_len (xs.take k)
    have hvl : vs.length ≤ k := by have := HRW.out.1; have h2 : (xs.take k).length ≤ k := by simp; omega
                                   omega
    clear hstl
    by_cases hlt : k < n
    · obtain ⟨b, off, u, rfl, _, hu, hcu⟩ := ints_cell (HR.out.below HBW.out) hlt
      have hts : xs.take (k + 1) = xs.take k ++ [u] := by
        obtain ⟨hk', rfl⟩ := List.getElem?_eq_some_iff.1 hu
        rw [List.take_succ_eq_append_getElem hk']
      have HTS := Lib.hid hts; clear hts hu
      by_cases h46 : u = 46
      · have hb46 : (u == 46) = true := by rw [beq_iff_eq]; exact h46
        obtain ⟨e1, e2⟩ := Sp.st_dot (xs.take k) u h46
        have E1 := Lib.hid e1; have E2 := Lib.hid e2; clear e1 e2 h46
        go_wp2_with (at_builtin; refine app_row (by rfl) _ _ rfl (base := B) rfl (HO.out.alloc _) rfl (rd_one_row wr (.slice none 0 0)) (slice_one none 0 0) (by omega) (by simp; have := HBW.out.size; have := HBB.out; omega) ?_)
        intro A2 c2 w2 ho2 hg2 _
        have hal : wr.grownBy (wr.alloc (.cells #[.slice none 0 0] 28)) none := only_alloc (only_refl _ _) _
        have hoa := HO.out.alloc (.cells #[.slice none 0 0] 28)
        have hla := HOL.out.alloc (.cells #[.slice none 0 0] 28)
        have hl2 := hla.kept hg2 (own_apart hla hoa (by decide))
        have hs2 : wr.heap.size + 1 ≤ w2.heap.size := by simpa using hg2.size
        have hrw2 := ((HRW.out.keep hal (fun q h => by cases h)).keep hg2 (fun q h => .inr (own_heap hoa q h))).snoc (K' := w2.heap.size) (by omega) (own_lower hl2 hBK) (fun q h => (hl2.lt q h).2)
        have hb2 := (HBW.out.alloc (by have := HBW.out.size; have := HBB.out; omega) (.cells #[.slice none 0 0] 28)).grown hg2 (by simp; have := HBW.out.size; have := HBB.out; omega) (fun q h => (hoa.lt q h).1)
        have HO2 := Lib.hid ho2; have HRW2 := Lib.hid hrw2; have HB2 := Lib.hid hb2
        clear ho2 hg2 hal hoa hla hl2 hrw2 hb2
        go_wp2
        go_roundw
        case rel =>
          refine ⟨k + 1, vs ++ [.slice Al (Sp.st (xs.take k)).2.length cl], A2, c2, none, 0, w2.heap.size, by omega, by go_num, by simp, ?_⟩
          rw [HTS.out, E1.out, E2.out, List.length_append]
          exact ⟨by rw [List.append_assoc]; exact HO2.out, HRW2.out, World.ownsRow_nil _ _ _ _, by have := HBB.out; have := HBW.out.size; omega, Nat.le_refl _, HB2.out⟩
        case measure => simp [intOf]; omega
      · have hb46 : (u == 46) = false := by rw [beq_eq_false_iff_ne]; exact h46
        obtain ⟨e1, e2⟩ := Sp.st_char (xs.take k) u h46
        have E1 := Lib.hid e1; have E2 := Lib.hid e2; clear e1 e2 h46
        have hlast := Sp.st_last (xs.take k)
        have hll : (Sp.st (xs.take k)).2.length ≤ k := by have h2 : (xs.take k).length ≤ k := by simp; omega
                                                          omega
        clear hlast
        obtain ⟨go, rfl, hgo, hgolt, hcap, hoc, hof⟩ := own_at HO.out (by omega)
        have hc1 : wr.cell? ⟨go, vs.length, none⟩ = some (.slice Al (Sp.st (xs.take k)).2.length cl) := hoc vs.length _ (by simp)
        clear hoc hof hcap
        have e0 : ((vs.length : Int) + 1 - 1) = (vs.length : Int) := by omega
        go_wp2_with (at_builtin; refine app_int (by rfl) _ _ rfl (base := K) rfl (HOL.out.alloc _) rfl (rd_one wr u) (by omega) (by simp; omega) ?_)
        intro A2 c2 w2 hl2 hg2 _
        have hoa := HO.out.alloc (.cells #[.int .i64 u] 3)
        have hla := HOL.out.alloc (.cells #[.int .i64 u] 3)
        have hal : wr.grownBy (wr.alloc (.cells #[.int .i64 u] 3)) none := only_alloc (only_refl _ _) _
        have ho2 := hoa.kept hg2 (own_apart hoa hla (by decide))
        have hrw2 := (HRW.out.keep hal (fun q h => by cases h)).keep hg2 (fun q h => .inl (hla.lt q h).1)
        have hs2 : wr.heap.size + 1 ≤ w2.heap.size := by simpa using hg2.size
        have hb2 := (HBW.out.alloc (by have := HBW.out.size; have := HBB.out; omega) (.cells #[.int .i64 u] 3)).grown hg2 (by simp; have := HBW.out.size; have := HBB.out; omega) (fun q h => by have := (hla.lt q h).1; omega)
        have hst := ho2.stored vs.length (.slice A2 ((Sp.st (xs.take k)).2.length + 1) c2)
        rw [set_snoc] at hst
        have hl3 := hl2.kept hst.2 (by
          rcases own_apart hl2 ho2 (by decide) with h | h
          · exact .inl h
          · exact .inr (by simpa [Value.ownBlock] using h))
        have hrw3 := hrw2.keep hst.2 (fun q h => .inr (own_heap ho2 q (by simpa [Value.ownBlock] using h)))
        have hb3 := hb2.setCell (p := ⟨go, vs.length, none⟩) hgo (.slice A2 ((Sp.st (xs.take k)).2.length + 1) c2)
        have hc2 : w2.cell? ⟨go, vs.length, none⟩ = some (.slice Al (Sp.st (xs.take k)).2.length cl) := by
          obtain ⟨g', hA, _, _, _, hoc, _⟩ := own_at ho2 (by omega)
          injection hA with hA; injection hA with hA _; subst hA
          exact hoc vs.length _ (by simp)
        have hf2 : w2.frozen? ⟨go, vs.length, none⟩ = false := by
          obtain ⟨g', hA, _, _, _, _, hof⟩ := own_at ho2 (by omega)
          injection hA with hA; injection hA with hA _; subst hA
          exact hof vs.length
        have HO3 := Lib.hid hst.1; have HRW3 := Lib.hid hrw3; have HL3 := Lib.hid hl3; have HB3 := Lib.hid hb3
        clear hoa hla hal ho2 hrw2 hb2 hst hl3 hrw3 hb3 hl2 hg2
        go_wp2
        go_roundw
        case rel =>
          refine ⟨k + 1, vs, some ⟨go, 0, none⟩, co, A2, c2, K, by omega, by go_num, rfl, ?_⟩
          rw [HTS.out, E1.out, E2.out, List.length_append]
          exact ⟨HO3.out, HRW3.out, HL3.out, hBK, by simp; omega, HB3.out⟩
        case measure => simp [intOf]; omega
    · have hkn : k = n := by omega
      have htk : xs.take k = xs := List.take_of_length_le (by have := HN.out; omega)
      have HTK := Lib.hid htk; clear hkn htk
      have hlen : (Sp.labels xs).length = vs.length + 1 := by
        unfold Sp.labels; rw [List.length_append, HRW.out.1, HTK.out]; rfl
      have HLEN := Lib.hid hlen; clear hlen
      go_wp2
      go_ret
      have hl := HOL.out; have hr := HRW.out; have ho := HO.out
      rw [HTK.out] at hl hr ho
      have hfin := hr.snoc (K' := wr.heap.size) hKw (own_lower hl hBK) (fun q h => (hl.lt q h).2)
      refine ⟨Ao, co, vs ++ [.slice Al (Sp.st xs).2.length cl], ?_, ?_, ?_, ?_⟩
      · rw [HLEN.out]; rfl
      · rw [HLEN.out, HBB.out]; exact ho
      · rw [HBB.out]; exact hfin
      · rw [HBB.out]; exact HBW.out

set_option maxHeartbeats 2000000 in
theorem sjoin_any (A : Option Addr) (c : Nat) (yss : List (List Int)) (B0 : Nat) (w : World) (hr : RdR w B0 A yss) (hB0 : B0 ≤ w.heap.size) (hl : Sp.total yss ≤ 8796093022208) (hn0 : yss.length ≤ maxLen) :
    Calls Tryz.prog 155 #[.slice A yss.length c] w (RetI 3 (Sp.join yss) w) := by
  have HR := Lib.hid (hr.more hB0); clear hr hB0
  unfold maxLen at hn0
  generalize hn : yss.length = n at *
  have HN := Lib.hid hn; clear hn
  generalize hB : w.heap.size = B at *
  have HBB := Lib.hid hB; clear hB
  go_enter Tryz.func155, Tryz.ntmps155
  go_wp2
  go_loopw [3, 8] (fun vo i wr => ∃ (k : Nat) (Ao : Option Addr) (co : Nat), k ≤ n ∧ i = .int .i64 k ∧ vo = .slice Ao (Sp.join (yss.take k)).length co ∧
      wr.ownsRow B 3 1 (.slice Ao (Sp.join (yss.take k)).length co) (Sp.join (yss.take k)).length (ints (Sp.join (yss.take k))) ∧ Below B w wr) (fun _ i _ => n - (intOf i).toNat)
  case atStart => exact ⟨0, none, 0, by omega, rfl, rfl, World.ownsRow_nil _ _ _ _, Below.refl _ _⟩
  case round =>
    obtain ⟨k, Ao, co, hk, rfl, rfl, ho, hb⟩ := hrel
    have HO := Lib.hid ho; have HBW := Lib.hid hb; clear ho hb
    have hsz : B ≤ wr.heap.size := by have := HBW.out.size; have := HBB.out; omega
    by_cases hlt : k < n
    · obtain ⟨b, off, ys, A', c', rfl, _, hys, hcy, hry⟩ := (HR.out.below HBW.out).at_ (show k < yss.length by have := HN.out; omega)
      have hj := Sp.join_snoc_take yss k ys hys
      have hb1 : (Sp.join (yss.take (k + 1))).length ≤ 8796093022208 := Nat.le_trans (Sp.join_len _) (Nat.le_trans (Sp.total_take _ _) hl)
      rw [hj] at hb1
      simp at hb1
      have HJ := Lib.hid hj; have HRY := Lib.hid hry
      clear hj hys hry
      by_cases h0 : k = 0
      · have hk0 : ¬ (0 : Int) < (k : Int) := by omega
        rw [if_pos h0] at hb1
        simp at hb1
        have hj2 : Sp.join (yss.take (k + 1)) = Sp.join (yss.take k) ++ ys := by rw [HJ.out, if_pos h0]; simp
        have HJ2 := Lib.hid hj2; clear hj2 h0
        go_wp2_with (at_builtin; refine app_int (by rfl) _ _ rfl (base := B) rfl HO.out rfl HRY.out (by omega) hsz ?_)
        intro A2 c2 w2 ho2 hg2 _
        have hb2 := HBW.out.grown hg2 hsz (fun q h => (HO.out.lt q h).1)
        have HO2 := Lib.hid ho2; have HB2 := Lib.hid hb2; clear ho2 hg2 hb2
        go_wp2
        go_roundw
        case rel =>
          refine ⟨k + 1, A2, c2, by omega, by go_num, ?_, ?_, HB2.out⟩
          · rw [HJ2.out, List.length_append]
          · rw [HJ2.out, List.length_append]; exact HO2.out
        case measure => simp [intOf]; omega
      · have hk0 : (0 : Int) < (k : Int) := by omega
        rw [if_neg h0] at hb1
        simp at hb1
        have hj2 : Sp.join (yss.take (k + 1)) = (Sp.join (yss.take k) ++ [46]) ++ ys := by rw [HJ.out, if_neg h0]
        have HJ2 := Lib.hid hj2; clear hj2 h0
        go_wp2_with (at_builtin; refine app_int (by rfl) _ _ rfl (base := B) rfl (HO.out.alloc _) rfl (rd_one wr 46) (by omega) (by simp; omega) ?_)
        intro A1 c1 w1 ho1 hg1 _
        have hs1 : wr.heap.size + 1 ≤ w1.heap.size := by simpa using hg1.size
        have hoa := HO.out.alloc (.cells #[.int .i64 46] 3)
        have hb1' := (HBW.out.alloc hsz (.cells #[.int .i64 46] 3)).grown hg1 (by simp; omega) (fun q h => (hoa.lt q h).1)
        have hry1 : Rd w1 B 1 A' ys.length (ints ys) := ((HRY.out.alloc hsz _).grown hg1 (by simp; omega) (fun q h => (hoa.lt q h).1))
        have HO1 := Lib.hid ho1; have HB1 := Lib.hid hb1'; have HRY1 := Lib.hid hry1
        clear ho1 hg1 hoa hb1' hry1
        go_wp2_with (at_builtin; refine app_int (by rfl) _ _ rfl (base := B) rfl HO1.out rfl HRY1.out (by omega) (by omega) ?_)
        intro A2 c2 w2 ho2 hg2 _
        have hb2 := HB1.out.grown hg2 (by omega) (fun q h => (HO1.out.lt q h).1)
        have HO2 := Lib.hid ho2; have HB2 := Lib.hid hb2; clear ho2 hg2 hb2
        go_wp2
        go_roundw
        case rel =>
          refine ⟨k + 1, A2, c2, by omega, by go_num, ?_, ?_, HB2.out⟩
          · rw [HJ2.out, List.length_append, List.length_append]; rfl
          · rw [HJ2.out, List.length_append, List.length_append, List.append_assoc]; exact HO2.out
        case measure => simp [intOf]; omega
    · have htk : yss.take k = yss := List.take_of_length_le (by have := HN.out; omega)
      have HTK := Lib.hid htk; clear htk
      go_wp2
      go_ret
      have ho := HO.out
      rw [HTK.out] at ho
      refine ⟨Ao, co, ?_, ?_, ?_⟩
      · rw [HTK.out]; rfl
      · rw [HBB.out]; exact ho
      · rw [HBB.out]; exact HBW.out

/-! ### the check of labels -/
set_option maxHeartbeats 2000000 in
theorem schk_any (A : Option Addr) (c : Nat) (xs : List ByteArray) (B : Nat) (w : World) (hr : Rd w B 1 A xs.length (strs xs)) (hl : xs.length ≤ 100000000000000000) :
    Calls Tryz.prog 175 #[.slice A xs.length c] w fun e w' => e = .returned (.tuple #[.int .i64 (Sp.chk xs).1, .int .i64 (Sp.chk xs).2]) ∧ w = w' := by
  have HR := Lib.hid hr; clear hr
  generalize hn : xs.length = n at *
  have HN := Lib.hid hn; clear hn
  by_cases h0 : n = 0
  · have hx : xs = [] := List.eq_nil_of_length_eq_zero (by have := HN.out; omega)
    have hb0 : ((n : Int) == 0) = true := by rw [beq_iff_eq]; omega
    subst hx
    clear h0
    go_enter Tryz.func175, Tryz.ntmps175
    go_wp2
    go_ret2
    exact ⟨rfl, rfl⟩
  · have hb0 : ((n : Int) == 0) = false := by rw [beq_eq_false_iff_ne]; omega
    have hne : xs ≠ [] := by rintro rfl; have := HN.out; simp at this; omega
    have HNE := Lib.hid hne; clear hne
    go_enter Tryz.func175, Tryz.ntmps175
    go_wp2
    go_loop [14] (fun i => ∃ k : Nat, k ≤ n ∧ i = .int .i64 k ∧ Sp.fine xs k) (fun i => n - (intOf i).toNat)
    case atStart => exact ⟨0, by omega, rfl, fun j s hj => by omega⟩
    case round =>
      obtain ⟨k, hk, rfl, hf⟩ := hrel
      have HF := Lib.hid hf; clear hf
      by_cases hlt : k < n
      · obtain ⟨b, off, s, rfl, _, hs, hcs⟩ := strs_cell HR.out hlt
        have HS := Lib.hid hs; clear hs
        by_cases hz : s.size = 0
        · have he : s.toList.isEmpty = true := by rw [size_empty]; simpa using hz
          have hck := Sp.chk_bad xs k s 10 HF.out HS.out (.inl ⟨hz, rfl⟩)
          have HCK := Lib.hid hck; clear hck hz
          go_wp2
          go_ret2
          rw [HCK.out]
          exact ⟨rfl, rfl⟩
        · have he : s.toList.isEmpty = false := by rw [size_empty]; simpa using hz
          by_cases h63 : 63 < s.size
          · have hck := Sp.chk_bad xs k s 11 HF.out HS.out (.inr ⟨h63, rfl⟩)
            have HCK := Lib.hid hck; clear hck hz
            have h63i : (63 : Int) < (s.size : Int) := by omega
            go_wp2
            go_ret2
            rw [HCK.out]
            exact ⟨rfl, rfl⟩
          · have h63i : ¬ (63 : Int) < (s.size : Int) := by omega
            have hf2 := Sp.fine_succ xs k s HF.out HS.out hz (by omega)
            have HF2 := Lib.hid hf2; clear hf2 hz
            go_wp2
            go_round
            case rel => exact ⟨k + 1, by omega, by go_num, HF2.out⟩
            case measure => simp [intOf]; omega
      · have hkn : k = n := by omega
        have hfa : Sp.fine xs xs.length := by have := HF.out; rw [HN.out, ← hkn]; exact this
        have HFA := Lib.hid hfa; clear hfa hkn
        go_wp2
        go_loop [6, 32] (fun v i => ∃ m : Nat, m ≤ n ∧ i = .int .i64 m ∧ v = .int .i64 ((n : Int) - 1 + (Sp.bytes (xs.take m) : Nat))) (fun _ i => n - (intOf i).toNat)
        case atStart => exact ⟨0, by omega, rfl, by simp [Sp.bytes]⟩
        case round =>
          obtain ⟨m, hm, rfl, rfl⟩ := hrel
          have hbl := Sp.bytes_le xs HFA.out m
          by_cases hlt2 : m < n
          · obtain ⟨b, off, s, rfl, _, hs, hcs⟩ := strs_cell HR.out hlt2
            have hbt := Sp.bytes_take xs m s hs
            have hs63 := (HFA.out m s (by have := HN.out; omega) hs).2
            have HBT := Lib.hid hbt; clear hbt hs
            generalize Sp.bytes (xs.take m) = bm at *
            have hbm : (bm : Int) ≤ 63 * (m : Int) := by omega
            go_wp2
            go_round
            case rel => exact ⟨m + 1, by omega, by go_num, by rw [HBT.out]; go_num⟩
            case measure => simp [intOf]; omega
          · have hmn : m = n := by omega
            have htk : xs.take m = xs := List.take_of_length_le (by have := HN.out; omega)
            have HTK := Lib.hid htk; clear htk
            rw [HTK.out] at hbl
            rw [HTK.out]
            by_cases h1 : 127 < n
            · have hck := Sp.chk_long xs HNE.out HFA.out (.inl (by have := HN.out; omega))
              have HCK := Lib.hid hck; clear hck hmn
              have h1i : (127 : Int) < (n : Int) := by omega
              go_wp2
              go_ret2
              rw [HCK.out]
              exact ⟨rfl, rfl⟩
            · have h1i : ¬ (127 : Int) < (n : Int) := by omega
              by_cases h2 : 253 < n - 1 + Sp.bytes xs
              · have hck := Sp.chk_long xs HNE.out HFA.out (.inr (by have := HN.out; omega))
                have HCK := Lib.hid hck; clear hck hmn
                have h2i : (253 : Int) < (n : Int) - 1 + (Sp.bytes xs : Nat) := by omega
                go_wp2
                go_ret2
                rw [HCK.out]
                exact ⟨rfl, rfl⟩
              · have hck := Sp.chk_ok xs HNE.out HFA.out (by have := HN.out; omega)
                have HCK := Lib.hid hck; clear hck hmn
                have h2i : ¬ (253 : Int) < (n : Int) - 1 + (Sp.bytes xs : Nat) := by omega
                go_wp2
                go_ret2
                rw [HCK.out]
                exact ⟨rfl, rfl⟩
end Go.Proofs.YtddieenjdaociaaGreatDoor
