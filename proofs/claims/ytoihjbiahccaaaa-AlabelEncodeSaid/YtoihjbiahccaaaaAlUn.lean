/- The walk of the law AlabelUnique, and of the reference's ASCII. -/
import Derived.Test.YtoihjbiahccaaaaAlLL
namespace Go.Proofs.Ytoihjbiahccaaaa
open Go Go.RowKit
set_option linter.unusedVariables false

namespace Al
def utab : List UInt8 := [97, 98, 107, 122, 48, 57, 45, 65, 90, 121, 120, 57, 45, 97, 97, 97, 98, 99, 100, 101, 102]
theorem utab_at : ∀ m : Fin 21, ((⟨#[97, 98, 107, 122, 48, 57, 45, 65, 90, 121, 120, 57, 45, 97, 97, 97, 98, 99, 100, 101, 102]⟩ : ByteArray).extract m.1 (m.1 + 1)).data = #[utab.getD m.1 0] := by decide +kernel
theorem pts_x {L : List UInt8} (h : isX L = true) : (∃ p, pts L = (p, 0) ∧ lab p = (low L, 0) ∧ ascii p = false) ∨ (∃ e, ¬ e = 0 ∧ pts L = ([], e)) := by
  have h4 : 4 ≤ L.length := by
    unfold isX at h
    rw [Bool.and_eq_true] at h
    exact of_decide_eq_true h.1
  unfold pts
  rw [if_neg (by omega), h]
  by_cases h1 : Pn.ascii L = true
  · rw [if_pos h1]
    by_cases h2 : 63 < L.length
    · rw [if_pos h2]; exact .inr ⟨11, by decide, rfl⟩
    · rw [if_neg h2, if_pos rfl]
      by_cases h3 : (Pn.decP (low (L.drop 4))).2 = 0
      · rw [if_pos h3]
        cases h5 : ascii (Pn.decP (low (L.drop 4))).1
        · rw [if_neg (by simp)]
          by_cases h6 : (lab (Pn.decP (low (L.drop 4))).1).2 = 0 ∧ (lab (Pn.decP (low (L.drop 4))).1).1 = low L
          · rw [if_pos h6]
            exact .inl ⟨_, rfl, Prod.ext h6.2 h6.1, h5⟩
          · rw [if_neg h6]; exact .inr ⟨12, by decide, rfl⟩
        · rw [if_pos rfl]; exact .inr ⟨12, by decide, rfl⟩
      · rw [if_neg h3]; exact .inr ⟨_, h3, rfl⟩
  · rw [if_neg h1]; exact .inr ⟨12, by decide, rfl⟩
theorem pts_len {L : List UInt8} {p : List Int} {e : Int} (h : pts L = (p, e)) : p.length ≤ 4096 := by
  unfold pts at h
  by_cases h0 : L.length = 0
  · rw [if_pos h0] at h; injection h with h; rw [← h]; simp
  · rw [if_neg h0] at h
    by_cases h1 : Pn.ascii L = true
    · rw [if_pos h1] at h
      by_cases h2 : 63 < L.length
      · rw [if_pos h2] at h; injection h with h; rw [← h]; simp
      · rw [if_neg h2] at h
        by_cases h3 : isX L = true
        · rw [if_pos h3] at h
          have hall := Pn.decP_all (low (L.drop 4)) (by rw [low_len, List.length_drop]; omega)
          have hl : (Pn.decP (low (L.drop 4))).1.length ≤ 4096 := by
            rcases hall with ⟨_, h⟩ | ⟨h, _⟩
            · exact h
            · rw [h]; simp
          split at h
          · split at h
            · injection h with h; rw [← h]; simp
            · split at h
              · injection h with h; rw [← h]; exact hl
              · injection h with h; rw [← h]; simp
          · injection h with h; rw [← h]; simp
        · rw [if_neg h3] at h; injection h with h; rw [← h]; unfold Pn.nums; rw [List.length_map]; omega
    · rw [if_neg h1] at h; injection h with h; rw [← h]; simp
theorem isX_xn (L : List UInt8) : isX ([120, 110, 45, 45] ++ L) = true := by
  unfold isX
  rw [decide_eq_true (by simp), show List.take 4 ([120, 110, 45, 45] ++ L) = ([120, 110, 45, 45] : List UInt8) from rfl, Bool.true_and]
  decide
theorem isX_XN (L : List UInt8) : isX ([88, 78, 45, 45] ++ L) = true := by
  unfold isX
  rw [decide_eq_true (by simp), show List.take 4 ([88, 78, 45, 45] ++ L) = ([88, 78, 45, 45] : List UInt8) from rfl, Bool.true_and]
  decide
end Al
set_option maxHeartbeats 2000000 in
theorem rascii_any (A : Option Addr) (c : Nat) (l : List Int) (B : Nat) (w : World) (hr : Rd w B 1 A l.length (ints l)) (hl : l.length ≤ 1000000000000000) :
    Calls Try.prog 31 #[.slice A l.length c] w fun e w' => e = .returned (.bool (Al.ascii l)) ∧ w = w' := by
  have HR := Lib.hid hr; clear hr
  go_enter Try.func31, Try.ntmps31
  go_wp2_with fail
  go_loop [7] (fun i => ∃ k : Nat, k ≤ l.length ∧ i = .int .i64 k ∧ ∀ j c, j < k → l[j]? = some c → 0 ≤ c ∧ c ≤ 127) (fun i => l.length - (intOf i).toNat)
  case atStart => exact ⟨0, by omega, rfl, fun j c h => by omega⟩
  case round =>
    obtain ⟨k, hk, rfl, hall⟩ := hrel
    have HALL := Lib.hid hall; clear hall
    by_cases hlt : k < l.length
    · obtain ⟨b, off, cc, rfl, hb, hat, hcell⟩ := ints_cell HR.out hlt
      have HAT := Lib.hid hat; clear hat
      by_cases h1 : cc < 0
      · have HF := Lib.hid (Al.ascii_bad HAT.out (.inl h1))
        go_wp2
        go_ret
        exact ⟨by rw [HF.out]; rfl, rfl⟩
      · by_cases h2 : 127 < cc
        · have HF := Lib.hid (Al.ascii_bad HAT.out (.inr h2))
          have h3 : 0 ≤ cc := by omega
          clear h1
          go_wp2
          go_ret
          exact ⟨by rw [HF.out]; rfl, rfl⟩
        · have h3 : 0 ≤ cc := by omega
          have h4 : cc ≤ 127 := by omega
          clear h1 h2
          go_wp2
          go_round
          case rel =>
            refine ⟨k + 1, by omega, by go_num, fun j c hj hjc => ?_⟩
            by_cases e : j = k
            · subst e; rw [HAT.out] at hjc; injection hjc with hjc; subst hjc; exact ⟨h3, h4⟩
            · exact HALL.out j c (by omega) hjc
          case measure => simp [intOf]; omega
    · have hf : Al.ascii l = true := by
        unfold Al.ascii
        rw [List.all_eq_true]
        intro c hc
        obtain ⟨j, hj⟩ := List.getElem?_of_mem hc
        have := HALL.out j c (by have := (List.getElem?_eq_some_iff.1 hj).1; omega) hj
        simp; omega
      have HF := Lib.hid hf; clear hf
      go_wp2
      go_ret
      exact ⟨by rw [HF.out]; rfl, rfl⟩
set_option maxRecDepth 100000 in
set_option maxHeartbeats 8000000 in
theorem walk_AlabelUnique (a0 : Option Addr) (c0 : Nat) (x0 : List Int) (how : Int) (w : World) (r0 : Rd w w.heap.size 1 a0 x0.length (intsK .u8 x0)) (m0 : x0.length ≤ maxLen) (f0 : ∀ n ∈ x0, (Lit.int .u8 n).wf = true) (w1 : (Lit.int .i64 how).wf = true) :
    Calls Try.prog 13 #[.slice a0 x0.length c0, .int .i64 how] w fun e w' => e = .returned (.bool true) ∧ Below w.heap.size w w' := by
  clear w1
  have p0 := Kp.pick_lo how 2 (by omega)
  have p1 := Kp.pick_hi how 2 (by omega)
  have HR := Lib.hid r0
  have hbd : ∀ n ∈ x0, 0 ≤ n ∧ n ≤ 255 := by
    intro n hn
    have := f0 n hn
    have e1 : IntKind.u8.min = 0 := rfl
    have e2 : IntKind.u8.max = 255 := rfl
    simp only [Lit.wf, e1, e2, Bool.and_eq_true, decide_eq_true_eq] at this
    exact this
  have HBD := Lib.hid hbd
  unfold maxLen at m0
  clear r0 f0 hbd
  go_enter Try.func13, Try.ntmps13
  go_wp2_with fail
  go_loopw [5, 6] (fun vt vi wr => ∃ (L : List UInt8) (k : Nat), vt = .string (str L) ∧ vi = .int .i64 k ∧ k ≤ 40 ∧ k ≤ x0.length ∧ L.length = k ∧ ∃ q, wr = w.drewN q) (fun _ vi _ => 50 - (intOf vi).toNat)
  case atStart => exact ⟨[], 0, rfl, rfl, by omega, by omega, rfl, 0, rfl⟩
  case round =>
    obtain ⟨L, k, rfl, rfl, hk, hkx, hL, q, rfl⟩ := hrel
    have HL := Lib.hid hL
    clear hL
    by_cases hlt : k < x0.length ∧ k < 40
    · obtain ⟨h1, h2⟩ := hlt
      obtain ⟨b, off, u, rfl, hb, hu, hcell⟩ := HR.out.at_ h1
      have hx : ∃ x, x0[k]? = some x ∧ u = .int .u8 x := by
        unfold intsK at hu
        rw [List.getElem?_map] at hu
        obtain ⟨x, e1, e2⟩ := Option.map_eq_some_iff.1 hu
        exact ⟨x, e1, e2.symm⟩
      obtain ⟨x, hx1, rfl⟩ := hx
      obtain ⟨b0, b1⟩ := HBD.out x (List.mem_of_getElem? hx1)
      obtain ⟨m, hm⟩ : ∃ m : Nat, x % 21 = (m : Int) := ⟨(x % 21).toNat, by omega⟩
      have hm21 : m < 21 := by omega
      have t1 : x.tmod 21 = (m : Int) := by rw [Int.tmod_eq_emod_of_nonneg b0, hm]
      have t2 : IntKind.u8.wrap (m : Int) = (m : Int) := by rw [IntKind.wrap_u8]; omega
      have t3 : IntKind.u8.wrap ((m : Int) + 1) = (m : Int) + 1 := by rw [IntKind.wrap_u8]; omega
      have t4 : ((m : Int) + 1).toNat = m + 1 := by omega
      have t5 : (0 : Int) ≤ (m : Int) + 1 := by omega
      have t6 : m + 1 ≤ 21 := by omega
      have t7 : (m : Int) + 1 ≤ 21 := by omega
      have t8 : (m : Int) ≤ (m : Int) + 1 := by omega
      have hex : (⟨#[97, 98, 107, 122, 48, 57, 45, 65, 90, 121, 120, 57, 45, 97, 97, 97, 98, 99, 100, 101, 102]⟩ : ByteArray).extract m (m + 1) = str [Al.utab.getD m 0] := ByteArray.ext (Al.utab_at ⟨m, hm21⟩)
      have hap := str_append L [Al.utab.getD m 0]
      have HEX := Lib.hid hex; have HAP := Lib.hid hap
      have hLL : (L ++ [Al.utab.getD m 0]).length = k + 1 := by rw [List.length_append, HL.out]; rfl
      have HLL := Lib.hid hLL
      have hs1 : (str L).size = k := by rw [str_size]; exact HL.out
      have hs2 : (str [Al.utab.getD m 0]).size = 1 := rfl
      have hs3 : (str (L ++ [Al.utab.getD m 0])).size = k + 1 := by rw [str_size]; exact HLL.out
      clear hu hx1 hm hLL
      have h1i : (k : Int) < (x0.length : Int) := by omega
      have h2i : (k : Int) < 40 := by omega
      have hk0 : (0 : Int) ≤ (k : Int) := by omega
      generalize hy : Al.utab.getD m 0 = y at *
      clear hy
      go_wp2_with fail
      go_quiet (fail)
      clear t1 t2 t3 t4 t5 t6 t7 t8 hex hap hs1 hs2 hs3
      go_wp2
      go_roundw
      case rel => exact ⟨L ++ [y], k + 1, rfl, by go_num, by omega, by omega, HLL.out, _, rfl⟩
      case measure => simp [intOf]; omega
    · have hl40 : L.length ≤ 40 := by rw [HL.out]; omega
      have hB0 : Below w.heap.size w (w.drewN q) := below_drewN (Below.refl _ w) q
      have HB0 := Lib.hid hB0; clear hB0
      have hxk : (x0.length : Int) ≤ (k : Int) ∨ ((k : Int) < (x0.length : Int) ∧ (40 : Int) ≤ (k : Int)) := by omega
      have hap1 : (⟨#[120, 110, 45, 45]⟩ : ByteArray) ++ str L = str ([120, 110, 45, 45] ++ L) := str_append [120, 110, 45, 45] L
      have hap2 : (⟨#[88, 78, 45, 45]⟩ : ByteArray) ++ str L = str ([88, 78, 45, 45] ++ L) := str_append [88, 78, 45, 45] L
      have hl44 : (str L).size ≤ 40 := by rw [str_size]; exact hl40
      clear HL hlt
      generalize hwq : w.drewN q = wq at *
      have hsq : w.heap.size = wq.heap.size := by rw [← hwq]; rfl
      have HSQ := Lib.hid hsq
      clear hwq hsq HR
      rcases hxk with hxk | ⟨hxk, hxk2⟩
      all_goals
        go_wp2_with fail
        refine (pick_any how 2 (by omega) (by omega) _).mono ?_
        rintro e w9 ⟨rfl, rfl⟩
        have hcs : ∀ i, (wq.alloc (Obj.cells #[Value.string { data := #[120, 110, 45, 45] }, Value.string { data := #[88, 78, 45, 45] }] 9)).cell? ⟨wq.heap.size, i, none⟩ = #[Value.string { data := #[120, 110, 45, 45] }, Value.string { data := #[88, 78, 45, 45] }][i]? := (Bk.new wq 9 _).cell
        have hc0 := hcs 0
        have hc1 := hcs 1
        have HB1 := Lib.hid (HB0.out.alloc (by have := HSQ.out; omega) (.cells #[Value.string { data := #[120, 110, 45, 45] }, Value.string { data := #[88, 78, 45, 45] }] 9))
        clear hcs
        have hpk : ∃ N : List UInt8, N.length ≤ 44 ∧ Al.isX N = true ∧ ((Kp.pick how 2 = 0 ∧ ([120, 110, 45, 45] ++ L) = N) ∨ (Kp.pick how 2 = 1 ∧ ([88, 78, 45, 45] ++ L) = N)) := by
          have : Kp.pick how 2 = 0 ∨ Kp.pick how 2 = 1 := by omega
          rcases this with h | h
          · exact ⟨_, by simp; omega, Al.isX_xn L, .inl ⟨h, rfl⟩⟩
          · exact ⟨_, by simp; omega, Al.isX_XN L, .inr ⟨h, rfl⟩⟩
        obtain ⟨N, hN, hX, hpk⟩ := hpk
        have hsN : (str N).size ≤ 44 := by rw [str_size]; exact hN
        have hz1 : ({ data := #[120, 110, 45, 45] } : ByteArray).size = 4 := rfl
        have hz2 : ({ data := #[88, 78, 45, 45] } : ByteArray).size = 4 := rfl
        have hpt := fun w => pts_any (str N) (by omega) w
        rw [lst_str] at hpt
        have hrl := fun w => rlower_any (str N) (by unfold maxLen; omega) w
        rw [lst_str] at hrl
        have hpx := Al.pts_x hX
        have HPT := Lib.hid hpt; have HPX := Lib.hid hpx; have HRL := Lib.hid hrl
        clear hpt hpx hrl p0 p1 hX
        generalize wq.alloc (Obj.cells #[Value.string { data := #[120, 110, 45, 45] }, Value.string { data := #[88, 78, 45, 45] }] 9) = wl at *
        have hszl := HB1.out.size
        rcases hpk with ⟨hp, hn⟩ | ⟨hp, hn⟩
        all_goals
          first | rw [hn] at hap1 | rw [hn] at hap2
          rw [hp]
          clear hp hn
          go_wp2_with fail
          clear hap1 hap2 hc0 hc1 hz1 hz2
          rcases HPX.out with ⟨p, hp1, hp2, hp3⟩ | ⟨er, her, hp1⟩
          · refine (HPT.out _).mono ?_
            rintro e w3 ⟨A3, c3, rfl, ho3, hb3⟩
            rw [hp1] at ho3
            rw [hp1]
            have hr3 := Rd.of_own ho3
            have HB3 := Lib.hid (HB1.out.trans (hb3.mono hszl))
            have hsz3 := HB3.out.size
            clear ho3 hb3
            have hpl : p.length ≤ 1000000 := by
              have := Al.pts_len (show Al.pts N = (p, 0) from hp1) 
              omega
            have hla := label_any A3 c3 p w3.heap.size w3 hr3 (Nat.le_refl _) (by omega)
            rw [hp2] at hla
            have HLA := Lib.hid hla; clear hla
            have hra := fun w' (h : Below w3.heap.size w3 w') => rascii_any A3 c3 p w3.heap.size w' (hr3.below h) (by omega)
            rw [hp3] at hra
            have HRA := Lib.hid hra
            clear hra hp1 hp2 hp3
            go_wp2_with fail
            refine HLA.out.mono ?_
            rintro e w4 ⟨rfl, hb4⟩
            have HB34 := Lib.hid hb4
            have HB4 := Lib.hid (HB3.out.trans (hb4.mono hsz3))
            have hsz34 := hb4.size
            have hsz4 := HB4.out.size
            clear hb4
            go_wp2_with fail
            refine (awake11_any _).mono ?_
            rintro e w5 ⟨rfl, hb5⟩
            have HB35 := Lib.hid (HB34.out.trans (hb5.mono hsz34))
            have HB5 := Lib.hid (HB4.out.trans (hb5.mono hsz4))
            have hsz35 := HB35.out.size
            have hsz5 := HB5.out.size
            clear hb5
            go_wp2_with fail
            refine (HRL.out _).mono ?_
            rintro e w6 ⟨rfl, hb6⟩
            have HB36 := Lib.hid (HB35.out.trans (hb6.mono hsz35))
            have HB6 := Lib.hid (HB5.out.trans (hb6.mono hsz5))
            clear hb6
            go_wp2_with fail
            refine (HRA.out _ HB36.out).mono ?_
            rintro e w7 ⟨rfl, rfl⟩
            go_wp2
            go_ret
            exact ⟨rfl, HB6.out⟩
          · refine (HPT.out _).mono ?_
            rintro e w3 ⟨A3, c3, rfl, ho3, hb3⟩
            rw [hp1]
            have HB3 := Lib.hid (HB1.out.trans (hb3.mono hszl))
            have hsz3 := HB3.out.size
            clear ho3 hb3 hp1
            go_wp2_with fail
            refine (awake11_any _).mono ?_
            rintro e w5 ⟨rfl, hb5⟩
            have HB5 := Lib.hid (HB3.out.trans (hb5.mono hsz3))
            clear hb5
            go_wp2
            go_ret
            exact ⟨rfl, HB5.out⟩
end Go.Proofs.Ytoihjbiahccaaaa
