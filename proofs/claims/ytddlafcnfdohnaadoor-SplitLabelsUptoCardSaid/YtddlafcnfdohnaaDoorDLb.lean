/- The walk of the maker of labels in the laws of chapter 12: at most seven labels without a full stop. -/
import Derived.Test.YtddlafcnfdohnaaDoorDAwake
import Derived.Test.YtddlafcnfdohnaaDoorPoints
namespace Go.Proofs.YtddlafcnfdohnaaDoor
open Go Go.RowKit
set_option linter.unusedVariables false

/-- Labels of at most 64 bytes, none of them a full stop. -/
def Lbs (ls : List ByteArray) : Prop := ∀ s ∈ ls, s.size ≤ 64 ∧ ∀ b ∈ s.data.toList, b ≠ 46
theorem lbs_snoc {ls : List ByteArray} (h : Lbs ls) (x : ByteArray) (hs : x.size ≤ 64) (hb : ∀ b ∈ x.data.toList, b ≠ 46) : Lbs (ls ++ [x]) := by
  intro s hm
  rcases List.mem_append.1 hm with h1 | h1
  · exact h s h1
  · simp at h1; subst h1; exact ⟨hs, hb⟩
theorem nodot_snoc (s : ByteArray) (u : UInt8) (h : ∀ b ∈ s.data.toList, b ≠ 46) (hu : u ≠ 46) : ∀ b ∈ (s ++ ⟨#[u]⟩ : ByteArray).data.toList, b ≠ 46 := by
  intro b hb
  rw [ByteArray.data_append, Array.toList_append] at hb
  rcases List.mem_append.1 hb with h1 | h1
  · exact h b h1
  · simp at h1; subst h1; exact hu
def RetLb (w : World) (e : Ending) (w' : World) : Prop := ∃ ls : List ByteArray, ls.length ≤ 7 ∧ Lbs ls ∧ RetS 9 ls w e w'

set_option maxHeartbeats 4000000 in
theorem lb_any (A : Option Addr) (c : Nat) (xs : List Int) (w : World) (hr : Rd w w.heap.size 1 A xs.length (ints xs)) (hl : xs.length ≤ maxLen) :
    Calls Tryd.prog 16 #[.slice A xs.length c] w (RetLb w) := by
  have HR := Lib.hid hr; have HL := Lib.hid hl; clear hr hl
  have hN0 := Kp.nx_lo xs 0 8 (by omega)
  have hN1 := Kp.nx_hi xs 0 8 (by omega)
  obtain ⟨N, hN⟩ := Int.eq_ofNat_of_zero_le hN0
  have HN := Lib.hid hN
  have hN7 : N ≤ 7 := by omega
  clear hN0 hN1 hN
  unfold RetLb RetS
  go_enter Tryd.func16, Tryd.ntmps16
  go_wp2_with fail
  refine (from_any _ _ _ _).mono ?_
  rintro e w1 ⟨rfl, hw1⟩
  have hs1 := src_new w A xs.length c
  have hsz1 : w1.heap.size = w.heap.size + 1 := by rw [← hw1]; simp
  have hb1 : Below w.heap.size w w1 := by rw [← hw1]; exact (Below.refl w.heap.size w).alloc (Nat.le_refl _) _
  rw [hw1] at hs1
  generalize hg : w.heap.size = g at *
  have HG := Lib.hid hg; clear hg
  have HR0 := HR
  have HS1 := Lib.hid hs1; have HB1 := Lib.hid hb1; clear hs1 hb1 hw1
  go_wp2_with fail
  refine (next_any _ _ _ _ _ 8 (by omega) (by omega) g _ HS1.out (HR.out.below HB1.out) (by omega) HL.out).mono ?_
  rintro e w2 ⟨rfl, hs2, hg2⟩
  have hsz2 := hg2.size
  have HB2 := Lib.hid (HB1.out.grown hg2 (by omega) (fun k hk => by injection hk; omega))
  have HS2 := Lib.hid hs2; clear hs2 hg2
  rw [HN.out]
  go_wp2_with fail
  go_loopw [4, 5] (fun vo n wr => ∃ (k i : Nat) (ls : List ByteArray) (Ao : Option Addr) (co : Nat), k ≤ N ∧ n = .int .i64 ((N - k : Nat) : Int) ∧ vo = .slice Ao k co ∧ ls.length = k ∧ Lbs ls ∧
      wr.ownsRow (g + 1) 9 1 (.slice Ao k co) k (strs ls) ∧ Src wr g A xs.length c i ∧ Below g w wr) (fun _ n _ => (intOf n).toNat)
  case atStart => exact ⟨0, _, [], none, 0, by omega, rfl, rfl, rfl, (fun s hs => by cases hs), World.ownsRow_nil _ _ _ _, HS2.out, HB2.out⟩
  case round =>
    obtain ⟨k, i, ls, Ao, co, hk, rfl, rfl, hll, hls, ho, hs, hb⟩ := hrel
    have HO := Lib.hid ho; have HS := Lib.hid hs; have HB := Lib.hid hb; have HLS := Lib.hid hls
    have hgs : g < wr.heap.size := hs.lt
    have HRk := Lib.hid (HR0.out.below HB.out)
    clear ho hs hb hls HS1 HB1 HS2 HB2
    by_cases hlt : k < N
    · have hpos : (0 : Int) < ((N - k : Nat) : Int) := by omega
      go_wp2_with fail
      refine (next_any g A c xs (i) 6 (by omega) (by omega) g _ HS.out HRk.out (by omega) HL.out).mono ?_
      rintro e w4a ⟨rfl, hs9, hg9⟩
      have hsz_w4a := hg9.size
      have HS1 := Lib.hid hs9
      have HB1 := Lib.hid (HB.out.grown hg9 (by omega) (fun k hk => by injection hk; omega))
      have HR1 := Lib.hid (HR0.out.below HB1.out)
      have HO1 := Lib.hid (HO.out.kept hg9 (by
        cases hob : (Value.slice Ao k co).ownBlock with
        | none => exact .inl rfl
        | some q => have := (HO.out.lt q hob).1; exact .inr (by intro e; injection e; omega)))
      clear hs9 hg9
      have h60 := Kp.nx_lo xs (i) 6 (by omega); have h61 := Kp.nx_hi xs (i) 6 (by omega)
      obtain ⟨v6, hv6⟩ := Int.eq_ofNat_of_zero_le h60
      rw [hv6] at h61 ⊢
      clear hv6 h60
      go_wp2_with fail
      refine (next_any g A c xs (Kp.ad xs i) 4 (by omega) (by omega) g _ HS1.out HR1.out (by omega) HL.out).mono ?_
      rintro e w5 ⟨rfl, hs9, hg9⟩
      have hsz_w5 := hg9.size
      have HS2 := Lib.hid hs9
      have HB2 := Lib.hid (HB1.out.grown hg9 (by omega) (fun k hk => by injection hk; omega))
      have HR2 := Lib.hid (HR0.out.below HB2.out)
      have HO2 := Lib.hid (HO1.out.kept hg9 (by
        cases hob : (Value.slice Ao k co).ownBlock with
        | none => exact .inl rfl
        | some q => have := (HO1.out.lt q hob).1; exact .inr (by intro e; injection e; omega)))
      clear hs9 hg9
      generalize hv4 : Kp.nx xs (Kp.ad xs i) 4 = v4
      clear hv4
      by_cases h40 : v4 = 0
      · have hb40 : (v4 == 0) = true := by rw [beq_iff_eq]; exact h40
        clear h40
        go_wp2_with fail
        refine (next_any g A c xs (Kp.ad xs (Kp.ad xs i)) 5 (by omega) (by omega) g _ HS2.out HR2.out (by omega) HL.out).mono ?_
        rintro e w6 ⟨rfl, hs9, hg9⟩
        have hsz_w6 := hg9.size
        have HS3 := Lib.hid hs9
        have HB3 := Lib.hid (HB2.out.grown hg9 (by omega) (fun k hk => by injection hk; omega))
        have HR3 := Lib.hid (HR0.out.below HB3.out)
        have HO3 := Lib.hid (HO2.out.kept hg9 (by
          cases hob : (Value.slice Ao k co).ownBlock with
          | none => exact .inl rfl
          | some q => have := (HO2.out.lt q hob).1; exact .inr (by intro e; injection e; omega)))
        clear hs9 hg9
        have h50 := Kp.nx_lo xs (Kp.ad xs (Kp.ad xs i)) 5 (by omega); have h51 := Kp.nx_hi xs (Kp.ad xs (Kp.ad xs i)) 5 (by omega)
        obtain ⟨v5, hv5⟩ := Int.eq_ofNat_of_zero_le h50
        rw [hv5] at h51 ⊢
        clear hv5 h50
        go_wp2_with fail
        go_loop [6, 7] (fun kv xv => ∃ (j : Nat) (s : ByteArray), j ≤ (60 + v5) ∧ kv = .int .i64 (((60 + v5) - j : Nat) : Int) ∧ xv = .string s ∧ s.size = j ∧ ∀ b ∈ s.data.toList, b ≠ 46) (fun kv _ => (intOf kv).toNat)
        case atStart => exact ⟨0, ⟨#[]⟩, by omega, by go_num, rfl, rfl, by simp⟩
        case round =>
          obtain ⟨j, s, hj, rfl, rfl, hs, hnd⟩ := hrel
          have HND := Lib.hid hnd; clear hnd
          by_cases hlj : j < (60 + v5)
          · have hpos : (0 : Int) < (((60 + v5) - j : Nat) : Int) := by omega
            have hss : (s ++ ⟨#[97]⟩ : ByteArray).size = j + 1 := by rw [ByteArray.size_append, hs]; rfl
            have HSS := Lib.hid hss
            have HND2 := Lib.hid (nodot_snoc s 97 HND.out (by decide))
            clear hss
            go_wp2
            go_round
            case rel => exact ⟨j + 1, s ++ ⟨#[97]⟩, by omega, by go_num, rfl, HSS.out, HND2.out⟩
            case measure => simp [intOf]; omega
          · have hjK : j = (60 + v5) := by omega
            have hneg : ¬ (0 : Int) < (((60 + v5) - j : Nat) : Int) := by omega
            by_cases h0 : s.size = 0
            · omega
            · have he : s.toList.isEmpty = false := by rw [size_empty]; simpa using h0
              go_wp2_with (at_builtin; refine app_str (by rfl) _ _ rfl (base := g + 1) rfl (HO3.out.alloc _) rfl (rd_one_str w6 s) (by omega) (by simp; omega) ?_)
              intro A4 c4 w4 ho4 hg4 _
              have hsz4 := hg4.size
              have HB4 := Lib.hid ((HB3.out.alloc (by omega) (.cells #[.string s] 9)).grown hg4 (by simp; omega) (fun q h => by have := (HO3.out.lt q h).1; omega))
              have HS4 := Lib.hid ((HS3.out.alloc (.cells #[.string s] 9)).grown hg4 (by
                intro e
                have := (HO3.out.lt g e.symm).1; omega))
              have HO4 := Lib.hid ho4
              have HLS4 := Lib.hid (lbs_snoc HLS.out s (by omega) (HND.out))
              clear ho4 hg4 hsz4
              go_wp2
              go_roundw
              case rel => exact ⟨k + 1, _, ls ++ [s], A4, c4, by omega, by go_num, rfl, by simp [hll], HLS4.out, HO4.out, HS4.out, HB4.out⟩
              case measure => simp [intOf]; omega
      · have hb40 : (v4 == 0) = false := by rw [beq_eq_false_iff_ne]; exact h40
        clear h40
        go_wp2_with fail
        go_loop [6, 7] (fun kv xv => ∃ (j : Nat) (s : ByteArray), j ≤ v6 ∧ kv = .int .i64 ((v6 - j : Nat) : Int) ∧ xv = .string s ∧ s.size = j ∧ ∀ b ∈ s.data.toList, b ≠ 46) (fun kv _ => (intOf kv).toNat)
        case atStart => exact ⟨0, ⟨#[]⟩, by omega, by go_num, rfl, rfl, by simp⟩
        case round =>
          obtain ⟨j, s, hj, rfl, rfl, hs, hnd⟩ := hrel
          have HND := Lib.hid hnd; clear hnd
          by_cases hlj : j < v6
          · have hpos : (0 : Int) < ((v6 - j : Nat) : Int) := by omega
            have hss : (s ++ ⟨#[97]⟩ : ByteArray).size = j + 1 := by rw [ByteArray.size_append, hs]; rfl
            have HSS := Lib.hid hss
            have HND2 := Lib.hid (nodot_snoc s 97 HND.out (by decide))
            clear hss
            go_wp2
            go_round
            case rel => exact ⟨j + 1, s ++ ⟨#[97]⟩, by omega, by go_num, rfl, HSS.out, HND2.out⟩
            case measure => simp [intOf]; omega
          · have hjK : j = v6 := by omega
            have hneg : ¬ (0 : Int) < ((v6 - j : Nat) : Int) := by omega
            by_cases h0 : s.size = 0
            · have he : s.toList.isEmpty = true := by rw [size_empty]; simpa using h0
              go_wp2_with fail
              refine (next_any g A c xs (Kp.ad xs (Kp.ad xs i)) 3 (by omega) (by omega) g _ HS2.out HR2.out (by omega) HL.out).mono ?_
              rintro e w7 ⟨rfl, hs9, hg9⟩
              have hsz_w7 := hg9.size
              have HS7 := Lib.hid hs9
              have HB7 := Lib.hid (HB2.out.grown hg9 (by omega) (fun k hk => by injection hk; omega))
              have HR7 := Lib.hid (HR0.out.below HB7.out)
              have HO7 := Lib.hid (HO2.out.kept hg9 (by
                cases hob : (Value.slice Ao k co).ownBlock with
                | none => exact .inl rfl
                | some q => have := (HO2.out.lt q hob).1; exact .inr (by intro e; injection e; omega)))
              clear hs9 hg9
              have h30 := Kp.nx_lo xs (Kp.ad xs (Kp.ad xs i)) 3 (by omega)
              generalize hv3 : Kp.nx xs (Kp.ad xs (Kp.ad xs i)) 3 = v3 at *
              clear hv3
              by_cases hp3 : (0 : Int) < v3
              · skip
                go_wp2_with (at_builtin; refine app_str (by rfl) _ _ rfl (base := g + 1) rfl (HO7.out.alloc _) rfl (rd_one_str w7 ⟨#[98]⟩) (by omega) (by simp; omega) ?_)
                intro A4 c4 w4 ho4 hg4 _
                have hsz4 := hg4.size
                have HB4 := Lib.hid ((HB7.out.alloc (by omega) (.cells #[.string ⟨#[98]⟩] 9)).grown hg4 (by simp; omega) (fun q h => by have := (HO7.out.lt q h).1; omega))
                have HS4 := Lib.hid ((HS7.out.alloc (.cells #[.string ⟨#[98]⟩] 9)).grown hg4 (by
                  intro e
                  have := (HO7.out.lt g e.symm).1; omega))
                have HO4 := Lib.hid ho4
                have HLS4 := Lib.hid (lbs_snoc HLS.out ⟨#[98]⟩ (by decide) (by decide))
                clear ho4 hg4 hsz4
                go_wp2
                go_roundw
                case rel => exact ⟨k + 1, _, ls ++ [⟨#[98]⟩], A4, c4, by omega, by go_num, rfl, by simp [hll], HLS4.out, HO4.out, HS4.out, HB4.out⟩
                case measure => simp [intOf]; omega
              · skip
                go_wp2_with (at_builtin; refine app_str (by rfl) _ _ rfl (base := g + 1) rfl (HO7.out.alloc _) rfl (rd_one_str w7 s) (by omega) (by simp; omega) ?_)
                intro A4 c4 w4 ho4 hg4 _
                have hsz4 := hg4.size
                have HB4 := Lib.hid ((HB7.out.alloc (by omega) (.cells #[.string s] 9)).grown hg4 (by simp; omega) (fun q h => by have := (HO7.out.lt q h).1; omega))
                have HS4 := Lib.hid ((HS7.out.alloc (.cells #[.string s] 9)).grown hg4 (by
                  intro e
                  have := (HO7.out.lt g e.symm).1; omega))
                have HO4 := Lib.hid ho4
                have HLS4 := Lib.hid (lbs_snoc HLS.out s (by omega) (HND.out))
                clear ho4 hg4 hsz4
                go_wp2
                go_roundw
                case rel => exact ⟨k + 1, _, ls ++ [s], A4, c4, by omega, by go_num, rfl, by simp [hll], HLS4.out, HO4.out, HS4.out, HB4.out⟩
                case measure => simp [intOf]; omega
            · have he : s.toList.isEmpty = false := by rw [size_empty]; simpa using h0
              go_wp2_with (at_builtin; refine app_str (by rfl) _ _ rfl (base := g + 1) rfl (HO2.out.alloc _) rfl (rd_one_str w5 s) (by omega) (by simp; omega) ?_)
              intro A4 c4 w4 ho4 hg4 _
              have hsz4 := hg4.size
              have HB4 := Lib.hid ((HB2.out.alloc (by omega) (.cells #[.string s] 9)).grown hg4 (by simp; omega) (fun q h => by have := (HO2.out.lt q h).1; omega))
              have HS4 := Lib.hid ((HS2.out.alloc (.cells #[.string s] 9)).grown hg4 (by
                intro e
                have := (HO2.out.lt g e.symm).1; omega))
              have HO4 := Lib.hid ho4
              have HLS4 := Lib.hid (lbs_snoc HLS.out s (by omega) (HND.out))
              clear ho4 hg4 hsz4
              go_wp2
              go_roundw
              case rel => exact ⟨k + 1, _, ls ++ [s], A4, c4, by omega, by go_num, rfl, by simp [hll], HLS4.out, HO4.out, HS4.out, HB4.out⟩
              case measure => simp [intOf]; omega
    · have hneg : ¬ (0 : Int) < ((N - k : Nat) : Int) := by omega
      go_wp2
      go_ret
      rw [HG.out]
      subst hll
      exact ⟨ls, by omega, HLS.out, Ao, co, rfl, own_lower' HO.out (by omega), HB.out⟩
end Go.Proofs.YtddlafcnfdohnaaDoor
