/- The walk of the document's Name, and of the law on Check and Name. -/
import Derived.Test.YtddlafcnfdohnaaNames
import Derived.Test.YtddlafcnfdohnaaLb
import Derived.Test.YtddlafcnfdohnaaSized
namespace Go.Proofs.Ytddlafcnfdohnaa
open Go Go.RowKit
set_option linter.unusedVariables false

theorem Sp.bytes_take_le (xs : List ByteArray) (k : Nat) : Sp.bytes (xs.take k) ≤ Sp.bytes xs := by
  have h := congrArg Sp.bytes (List.take_append_drop k xs)
  have h2 : Sp.bytes (xs.take k ++ xs.drop k) = Sp.bytes (xs.take k) + Sp.bytes (xs.drop k) := by simp only [Sp.bytes, List.map_append, List.sum_append]
  omega
set_option maxHeartbeats 2000000 in
theorem name_ref_any (A : Option Addr) (c : Nat) (xs : List ByteArray) (B : Nat) (w : World) (hr : Rd w B 1 A xs.length (strs xs)) (hl : xs.length ≤ 100000000000000000) :
    Calls Try.prog 17 #[.slice A xs.length c] w fun e w' => e = .returned (.tuple #[.string (Sp.nm xs), .int .i64 (Sp.chk xs).2]) ∧ w = w' := by
  have HR := Lib.hid hr; clear hr
  have hck := check_ref_any A c xs B w HR.out hl
  by_cases h0 : (Sp.chk xs).2 = 0
  · obtain ⟨h1, h2, h3⟩ := Sp.chk_zero xs h0
    have hnm : Sp.nm xs = Sp.nmj xs := if_pos h0
    rw [h0] at hck ⊢
    rw [hnm]
    have HCK := Lib.hid hck
    clear hck hnm h0 h3
    generalize (Sp.chk xs).1 = at0 at *
    generalize hn : xs.length = n at *
    have HN := Lib.hid hn; clear hn
    go_enter Try.func17, Try.ntmps17
    go_wp2_with fail
    refine HCK.out.mono ?_
    rintro e w' ⟨rfl, rfl⟩
    clear HCK
    go_wp2_with fail
    go_loop [6, 19] (fun v i => ∃ k : Nat, k ≤ n ∧ i = .int .i64 k ∧ v = .string (Sp.nmj (xs.take k))) (fun _ i => n - (intOf i).toNat)
    case atStart => exact ⟨0, by omega, rfl, rfl⟩
    case round =>
      obtain ⟨k, hk, rfl, rfl⟩ := hrel
      have hts := Sp.nmj_size (xs.take k)
      have htb := Sp.bytes_take_le xs k
      have htl : (xs.take k).length ≤ k := by simp; omega
      by_cases hlt : k < n
      · obtain ⟨b, off, s, rfl, _, hs, hcs⟩ := strs_cell HR.out hlt
        have hsz : s.size ≤ 253 := by
          have h4 := Sp.bytes_take xs k s hs
          have h5 := Sp.bytes_take_le xs (k + 1)
          omega
        have HNT := Lib.hid (Sp.nmj_take xs k s hs)
        clear hs
        generalize Sp.nmj (xs.take k) = t at *
        have htz : t.size ≤ 400 := by omega
        by_cases hk0 : k = 0
        · have hki : ¬ (0 : Int) < (k : Int) := by omega
          have hnt := HNT.out
          rw [if_pos hk0] at hnt
          have HNT2 := Lib.hid hnt
          clear hnt HNT htb htl hts hk0
          go_wp2
          go_round
          case rel => exact ⟨k + 1, by omega, by go_num, by rw [HNT2.out]⟩
          case measure => simp [intOf]; omega
        · have hki : (0 : Int) < (k : Int) := by omega
          have hnt := HNT.out
          rw [if_neg hk0] at hnt
          have HNT2 := Lib.hid hnt
          have ht46 : (t ++ ⟨#[46]⟩ : ByteArray).size = t.size + 1 := by rw [ByteArray.size_append]; rfl
          clear hnt HNT htb htl hts hk0
          go_wp2
          go_round
          case rel => exact ⟨k + 1, by omega, by go_num, by rw [HNT2.out]⟩
          case measure => simp [intOf]; omega
      · have htk : xs.take k = xs := List.take_of_length_le (by have := HN.out; omega)
        have HTK := Lib.hid htk; clear htk
        rw [HTK.out]
        go_wp2
        go_ret2
        exact ⟨rfl, rfl⟩
  · have hnm : Sp.nm xs = ⟨#[]⟩ := if_neg h0
    rw [hnm]
    have hne : ((Sp.chk xs).2 != 0) = true := by simpa using h0
    have HCK := Lib.hid hck
    clear hck hnm h0
    generalize (Sp.chk xs).1 = at0 at *
    generalize (Sp.chk xs).2 = er at *
    generalize hn : xs.length = n at *
    go_enter Try.func17, Try.ntmps17
    go_wp2_with fail
    refine HCK.out.mono ?_
    rintro e w' ⟨rfl, rfl⟩
    go_wp2
    go_ret2
    exact ⟨rfl, rfl⟩
theorem own_cap {w : World} {base : Nat} {e : TypeId} {A : Option Addr} {n c : Nat} {xs : List Value} (h : w.ownsRow base e 1 (.slice A n c) n xs) : n ≤ c := by
  rcases h.2 with ⟨hv, h0⟩ | ⟨g, cap, cur, hv, _, _, hnc, _⟩
  · omega
  · injection hv with _ _ hc; omega

set_option maxHeartbeats 4000000 in
theorem walk_SplitCheck (a0 : Option Addr) (c0 : Nat) (x0 : List ByteArray) (a1 : Option Addr) (c1 : Nat) (x1 : List Int) (w : World) (r0 : Rd w w.heap.size 1 a0 x0.length (strs x0)) (m0 : x0.length ≤ maxLen) (f0 : ∀ s ∈ x0, s.size ≤ maxLen) (q0 : x0.length * 16 ≤ reachBytes ∧ x0.length ≤ c0)
    (r1 : Rd w w.heap.size 1 a1 x1.length (intsK .i64 x1)) (m1 : x1.length ≤ maxLen) (f1 : ∀ n ∈ x1, (Lit.int .i64 n).wf = true) (q1 : x1.length * 8 ≤ reachBytes ∧ x1.length ≤ c1) :
    Calls Try.prog 6 #[.slice a0 x0.length c0, .slice a1 x1.length c1] w fun e w' => e = .returned (.bool true) ∧ Below w.heap.size w w' := by
  have HR0 := Lib.hid r0
  have HR1 := Lib.hid (show Rd w w.heap.size 1 a1 x1.length (ints x1) from r1); have HM1 := Lib.hid m1
  have hq0 := q0.2
  have hl0 : x0.length ≤ 100000000000000000 := by have := q0.1; unfold reachBytes at this; omega
  clear r0 m0 f0 r1 m1 f1 q0 q1
  go_enter Try.func6, Try.ntmps6
  go_wp2_with fail
  refine (lb_any _ _ _ _ HR1.out HM1.out).mono ?_
  rintro e w1 ⟨ls, hls7, _, A1, c1', rfl, ho1, hb1⟩
  have hcap := own_cap ho1
  have HX := Lib.hid (Rd.of_own ho1)
  have hsz1 := hb1.size
  have HB1 := Lib.hid hb1
  have HR01 := Lib.hid (HR0.out.below hb1)
  clear ho1 hb1 HR1 HM1
  go_wp2_with fail
  refine (check_any _ _ ls _ _ HX.out (by omega)).mono ?_
  rintro e w' ⟨rfl, rfl⟩
  go_wp2_with fail
  refine (check_ref_any _ _ ls _ _ HX.out (by omega)).mono ?_
  rintro e w' ⟨rfl, rfl⟩
  go_wp2_with fail
  refine (name_any _ _ ls _ _ HX.out (Nat.le_refl _) (by omega) hcap).mono ?_
  rintro e w2 ⟨rfl, hb2⟩
  have hsz2 := hb2.size
  have HB2 := Lib.hid (HB1.out.trans (hb2.mono hsz1))
  have HX2 := Lib.hid (HX.out.below hb2)
  have HR02 := Lib.hid (HR01.out.below (hb2.mono hsz1))
  clear hb2
  go_wp2_with fail
  refine (name_ref_any _ _ ls _ _ HX2.out (by omega)).mono ?_
  rintro e w' ⟨rfl, rfl⟩
  go_wp2_with fail
  refine (check_any _ _ x0 _ _ HR02.out hl0).mono ?_
  rintro e w' ⟨rfl, rfl⟩
  go_wp2_with fail
  refine (check_ref_any _ _ x0 _ _ HR02.out hl0).mono ?_
  rintro e w' ⟨rfl, rfl⟩
  go_wp2_with fail
  refine (name_any _ _ x0 _ _ HR02.out (by omega) hl0 hq0).mono ?_
  rintro e w3 ⟨rfl, hb3⟩
  have hsz3 := hb3.size
  have HB3 := Lib.hid (HB2.out.trans (hb3.mono (by omega)))
  have HR03 := Lib.hid (HR02.out.below (hb3.mono (by omega)))
  clear hb3
  go_wp2_with fail
  refine (name_ref_any _ _ x0 _ _ HR03.out hl0).mono ?_
  rintro e w' ⟨rfl, rfl⟩
  generalize Sp.nm ls = t1 at *
  generalize Sp.nm x0 = t0 at *
  generalize (Sp.chk ls).1 = k1 at *
  generalize (Sp.chk ls).2 = k2 at *
  generalize (Sp.chk x0).1 = k3 at *
  generalize (Sp.chk x0).2 = k4 at *
  go_wp2_with fail
  refine (awake12_any _).mono ?_
  rintro e w4 ⟨rfl, hb4⟩
  have HB4 := Lib.hid (HB3.out.trans (hb4.mono (by omega)))
  clear hb4
  go_wp2
  go_ret
  exact ⟨rfl, HB4.out⟩
end Go.Proofs.Ytddlafcnfdohnaa
