/- The walk of the reference's Decode: it returns what the plain law reads. -/
import Derived.Test.YtoihjbiahccaaaaPdR
import Derived.Test.YtoihjbiahccaaaaPnDc
import Derived.Deep.CutBlock
namespace Go.Proofs.Ytoihjbiahccaaaa
open Go Go.RowKit
set_option linter.unusedVariables false

theorem lastUp_succ (L : List UInt8) (k : Nat) (b : UInt8) (h : L[k]? = some b) : Pn.lastUp L (k + 1) = if b = 45 then k else Pn.lastUp L k := by
  show (if L[k]? = some 45 then k else Pn.lastUp L k) = _
  rw [h]
  by_cases e : b = 45
  · subst e; simp
  · rw [if_neg e, if_neg (fun e2 => e (by injection e2))]
theorem lastUp_one (L : List UInt8) : Pn.lastUp L 1 = 0 := by
  show (if L[0]? = some 45 then 0 else 0) = 0
  split <;> rfl
/-- A row cut in two: what 'out[:i]' and 'out[i:]' are. -/
theorem cut_row {w : World} {base : Nat} {A : Option Addr} {c M : Nat} {out : List Int} (ho : w.ownsRow base 3 1 (.slice A out.length c) out.length (ints out)) (hM : M ≤ out.length) :
    (∀ w', (Instr.slice 22 (.slice A out.length c) none (some (.int .i64 (M : Int))) none).run Try.prog w' = .ok (.slice A M c) w') ∧
    ∃ A2 c2, (∀ w', (Instr.slice 22 (.slice A out.length c) (some (.int .i64 (M : Int))) none none).run Try.prog w' = .ok (.slice A2 (out.length - M) c2) w') ∧
      Rd w w.heap.size 1 A M (ints (out.take M)) ∧ Rd w w.heap.size 1 A2 (out.length - M) (ints (out.drop M)) := by
  have ht : Try.prog.underlying 22 = some (.slice (Try.prog.elem 22)) := by kernel_rfl
  obtain ⟨i0, hi, hz0, hz1, hz2⟩ := info_parts info_int
  have hsz : ∀ w', (sizeOf (Try.prog.elem 22)).run Try.prog w' = .ok 1 w' := by
    intro w'
    rw [show Try.prog.elem 22 = 3 by kernel_rfl]
    simp [sizeOf, typeInfo, hi, hz1]
  have hcap : out.length ≤ c := by
    rcases ho.2 with ⟨hv, h0⟩ | ⟨g, cap, cur, hv, hbg, hh, hnc, hcm, hcs, htk⟩
    · omega
    · injection hv with e1 e2 e3; omega
  have hr := Rd.of_own ho
  have hi1 : (ints (out.take M)).length = M * 1 := by rw [ints_length, List.length_take]; omega
  have hi2 : (ints (out.drop M)).length = (out.length - M) * 1 := by rw [ints_length, List.length_drop]; omega
  have e1 := fun w' => run_slice_h (P := Try.prog) (w := w') 22 A out.length c ht .i64 (M : Int) (by omega) (by omega)
  have e2 := fun w' => run_slice_l (P := Try.prog) (w := w') 22 A out.length c ht .i64 (M : Int) (by omega) (by omega)
  have hA : A = none ∨ ∃ g, A = some ⟨g, 0, none⟩ := by
    rcases ho.2 with ⟨hv, h0⟩ | ⟨g, cap, cur, hv, hbg, hh, hnc, hcm, hcs, htk⟩
    · injection hv with e1 e2 e3; exact .inl e1
    · injection hv with e1 e2 e3; exact .inr ⟨g, e1⟩
  refine ⟨fun w' => ?_, (if c = M then A else A.map (·.add (M * 1))), c - M, fun w' => ?_, ⟨hi1, fun h0 => ?_⟩, ⟨hi2, fun h0 => ?_⟩⟩
  · rw [e1, hsz]
    show Result.ok (sliced A 0 ((M : Int).toNat) c 1) w' = _
    unfold sliced
    rw [Int.toNat_natCast, Nat.zero_mul, Nat.sub_zero, Nat.sub_zero]
    rcases hA with rfl | ⟨g, rfl⟩
    · split <;> rfl
    · split
      · rfl
      · show Result.ok (Value.slice (some (Addr.add ⟨g, 0, none⟩ 0)) M c) w' = _
        rw [addp]
  · rw [e2, hsz]
    show Result.ok (sliced A ((M : Int).toNat) out.length c 1) w' = _
    unfold sliced
    rw [Int.toNat_natCast]
  · rw [ints_length, List.length_take] at h0
    obtain ⟨b, off, h1, h2, h3⟩ := hr.2 (by rw [ints_length]; omega)
    refine ⟨b, off, h1, h2, fun j u hj => h3 j u ?_⟩
    rw [ints_at] at hj ⊢
    by_cases hjM : j < M
    · rwa [List.getElem?_take_of_lt hjM] at hj
    · rw [List.getElem?_eq_none (by rw [List.length_take]; omega)] at hj; cases hj
  · rw [ints_length, List.length_drop] at h0
    obtain ⟨b, off, h1, h2, h3⟩ := hr.2 (by rw [ints_length]; omega)
    refine ⟨b, off + M, ?_, h2, fun j u hj => ?_⟩
    · rw [if_neg (by omega), h1]
      show some (Addr.add ⟨b, off, none⟩ (M * 1)) = _
      rw [addp, Nat.mul_one]
    · rw [Nat.add_assoc]
      refine h3 (M + j) u ?_
      rw [ints_at] at hj ⊢
      rwa [List.getElem?_drop] at hj
/-- Where the main loop stands. -/
def RdUp (w : World) (L : List UInt8) (vo : Value) (k : Nat) (n i b : Int) (f : Bool) (wr : World) : Prop :=
  ∃ (out : List Int) (A : Option Addr) (c : Nat), vo = .slice A out.length c ∧ wr.ownsRow w.heap.size 3 1 (.slice A out.length c) out.length (ints out) ∧ Below w.heap.size w wr ∧
    k ≤ L.length ∧ out.length + (L.length - k) ≤ 2048 ∧ Pn.dec ((L.drop k).length + 1) (L.drop k) n i b f out = Pn.decP L ∧ 0 ≤ i ∧ i ≤ out.length
set_option maxRecDepth 100000 in
set_option maxHeartbeats 16000000 in
theorem rdecode_any (s : ByteArray) (hs : s.size ≤ 1000000000000000) (w : World) : Calls Try.prog 43 #[.string s] w (RetIE (Pn.decP (lst s)) w) := by
  by_cases hlong : 2048 < s.size
  · have hd := decP_long (s := lst s) (by rw [lst_length]; exact hlong)
    have HD := Lib.hid hd; clear hd
    go_enter Try.func43, Try.ntmps43
    go_wp2
    go_ret2
    exact RetIE.bad HD.out (Below.refl _ _)
  have hs2 : s.size ≤ 2048 := by omega
  clear hlong hs
  have hdl : Pn.lastD (lst s) = 0 ∨ (0 < Pn.lastD (lst s) ∧ lst s = (lst s).take (Pn.lastD (lst s)) ++ [45] ++ (lst s).drop (Pn.lastD (lst s) + 1) ∧ Pn.lastD (lst s) < s.size) := by
    by_cases h : 0 < Pn.lastD (lst s)
    · have := Pn.lastD_at h; rw [lst_length] at this; exact .inr ⟨h, this⟩
    · exact .inl (by omega)
  have hdec : Pn.decP (lst s) = if 0 < Pn.lastD (lst s) then (if Pn.ascii ((lst s).take (Pn.lastD (lst s))) then Pn.dec ((lst s).length + 1) ((lst s).drop (Pn.lastD (lst s) + 1)) 128 0 72 true (Pn.nums ((lst s).take (Pn.lastD (lst s)))) else ([], 12))
      else Pn.dec ((lst s).length + 1) (lst s) 128 0 72 true [] := by
    conv => lhs; unfold Pn.decP
    rw [if_neg (by rw [lst_length]; omega)]
  have hup : ∀ k, 1 ≤ k → (k ≤ s.size ∨ k = 1) → ¬ k < s.size → Pn.lastUp (lst s) k = Pn.lastD (lst s) := by
    intro k h1 h2 h3
    unfold Pn.lastD
    rw [lst_length]
    by_cases h4 : k = s.size
    · rw [h4]
    · have h5 : s.size = 0 := by omega
      have h6 : k = 1 := by omega
      rw [h5, h6, lastUp_one]; rfl
  have HDEC := Lib.hid hdec; have HDL := Lib.hid hdl; have HUP := Lib.hid hup; clear hdec hdl hup
  generalize hk : Pn.lastD (lst s) = K at *
  clear hk
  have hKs : K ≤ s.size := by rcases HDL.out with h | ⟨_, _, h⟩ <;> omega
  go_enter Try.func43, Try.ntmps43
  go_wp2_with fail
  go_loopw [4, 5] (fun vb vk wr => ∃ k : Nat, 1 ≤ k ∧ (k ≤ s.size ∨ k = 1) ∧ vk = .int .i64 k ∧ vb = .int .i64 (Pn.lastUp (lst s) k : Nat) ∧ w = wr) (fun _ vk _ => s.size - (intOf vk).toNat)
  case atStart => exact ⟨1, by omega, .inr rfl, rfl, by rw [lastUp_one]; rfl, rfl⟩
  case round =>
    obtain ⟨k, k1, k2, rfl, rfl, rfl⟩ := hrel
    by_cases hlt : k < s.size
    · have hsc := lastUp_succ (lst s) k s[k] (lst_at s k hlt)
      by_cases h45 : s[k] = 45
      · rw [if_pos h45] at hsc
        have g2 : ((s[k].toNat : Int) == 45) = true := by rw [h45]; rfl
        have HSC := Lib.hid hsc
        clear hsc h45
        generalize Pn.lastUp (lst s) k = lu at *
        go_wp2
        go_roundw
        case rel => exact ⟨k + 1, by omega, .inl (by omega), by go_num, by rw [HSC.out], trivial⟩
        case measure => simp [intOf]; omega
      · rw [if_neg h45] at hsc
        have g2 : ((s[k].toNat : Int) == 45) = false := by
          rw [beq_eq_false_iff_ne]
          intro e
          apply h45
          apply UInt8.toNat_inj.1
          show (s[k]).toNat = 45
          omega
        have HSC := Lib.hid hsc
        clear hsc h45
        generalize hlu : Pn.lastUp (lst s) k = lu at *
        clear hlu
        go_wp2
        go_roundw
        case rel => exact ⟨k + 1, by omega, .inl (by omega), by go_num, by rw [HSC.out], trivial⟩
        case measure => simp [intOf]; omega
    · rw [HUP.out k k1 k2 hlt]
      clear HUP
      go_wp2_with fail
      go_loopw [6, 7] (fun vo vi wr => ∃ (j : Nat) (A : Option Addr) (c : Nat), j ≤ K ∧ vi = .int .i64 j ∧ vo = .slice A j c ∧ wr.ownsRow w.heap.size 3 1 (.slice A j c) j (ints (Pn.nums ((lst s).take j))) ∧ Below w.heap.size w wr ∧ Pn.ascii ((lst s).take j) = true) (fun _ vi _ => K - (intOf vi).toNat)
      case atStart => exact ⟨0, none, 0, by omega, rfl, rfl, World.ownsRow_nil _ _ _ _, Below.refl _ _, rfl⟩
      case round =>
        obtain ⟨j, A, c, hj, rfl, rfl, ho, hb, ha⟩ := hrel
        have HO := Lib.hid ho; have HB := Lib.hid hb; have HA := Lib.hid ha
        have hsw := hb.size
        clear ho hb ha
        by_cases hlt : j < K
        · have hK0 : 0 < K := by omega
          have hjs : j < s.size := by omega
          have hbj := lst_at s j hjs
          have HBJ := Lib.hid hbj
          clear hbj
          have hb256 := s[j].toNat_lt
          by_cases hb128 : s[j].toNat < 128
          · have hb1 : (s[j].toNat : Int) < 128 := by omega
            have hn := nums_succ HBJ.out
            have ha2 := ascii_succ HBJ.out
            rw [HA.out, decide_eq_true hb128] at ha2
            have HN := Lib.hid hn; have HA2 := Lib.hid (show Pn.ascii ((lst s).take (j + 1)) = true from ha2)
            clear hn ha2
            have hbi0 : (0 : Int) ≤ (s[j].toNat : Int) := by omega
            generalize hbi : (s[j].toNat : Int) = bi at *
            go_wp2_with (at_builtin; refine app_int (by rfl) _ _ rfl (base := w.heap.size) rfl (HO.out.alloc _) rfl (rd_one_int (z := wr.heap.size) rfl bi) (by omega) (by simp <;> omega) ?_)
            intro A4 c4 w4 ho4 hg4 hc4
            have HP := Lib.hid (own_below HO.out HB.out _ hg4 hsw)
            have HO4 := Lib.hid (show w4.ownsRow w.heap.size 3 1 (.slice A4 (j + 1) c4) (j + 1) (ints (Pn.nums ((lst s).take (j + 1)))) by rw [HN.out]; exact ho4)
            clear ho4 hg4 hc4
            go_wp2
            go_roundw
            case rel => exact ⟨j + 1, A4, c4, by omega, by go_num, rfl, HO4.out, HP.out, HA2.out⟩
            case measure => simp [intOf]; omega
          · have hb1 : (128 : Int) ≤ (s[j].toNat : Int) := by omega
            have hab := ascii_bad HBJ.out hlt hb128
            have hdd := HDEC.out
            rw [if_pos hK0, hab] at hdd
            have HDD := Lib.hid (show Pn.decP (lst s) = ([], 12) from hdd)
            clear hab hdd
            generalize (s[j].toNat : Int) = bi at *
            go_wp2
            go_ret2
            exact RetIE.bad HDD.out HB.out
        · have hjK : K = j := by omega
          subst hjK
          go_upto_if 50 with fail
          go_cut [6, 8] (fun vo vf wx => ∃ k : Nat, vf = .int .i64 k ∧ RdUp w (lst s) vo k 128 0 72 true wx)
          case first =>
            by_cases hK0 : 0 < K
            · obtain ⟨h0, h1, h2⟩ : 0 < K ∧ lst s = (lst s).take K ++ [45] ++ (lst s).drop (K + 1) ∧ K < s.size := by
                rcases HDL.out with h | h
                · omega
                · exact h
              have hdd := HDEC.out
              rw [if_pos h0, HA.out, if_pos rfl] at hdd
              have hmr := Pn.dec_more ((lst s).length + 1) ((lst s).drop (K + 1)) 128 0 72 true (Pn.nums ((lst s).take K)) (by rw [List.length_drop]; omega) (((lst s).drop (K + 1)).length + 1) (by omega)
              have hnl : (Pn.nums ((lst s).take K)).length = K := by rw [nums_len, List.length_take, lst_length]; omega
              have HREL := Lib.hid (show RdUp w (lst s) (.slice A K c) (K + 1) 128 0 72 true wr from
                ⟨Pn.nums ((lst s).take K), A, c, by rw [hnl], by rw [hnl]; exact HO.out, HB.out, by rw [lst_length]; omega, by rw [hnl, lst_length]; omega, hmr.trans hdd.symm, by omega, by rw [hnl]; omega⟩)
              clear hdd hmr hnl h1 hlt hj
              have hdk : decide ((0 : Int) < (K : Int)) = true := decide_eq_true (by omega)
              go_wp2_with fail
              go_meet
              case rel => exact ⟨K + 1, by go_num, HREL.out⟩
            · have hK : K = 0 := by omega
              subst hK
              have hdd := HDEC.out
              rw [if_neg hK0] at hdd
              have HREL := Lib.hid (show RdUp w (lst s) (.slice A 0 c) 0 128 0 72 true wr from
                ⟨[], A, c, rfl, HO.out, HB.out, by omega, by rw [lst_length]; simp; omega, by rw [List.drop_zero]; exact hdd.symm, by omega, by simp⟩)
              clear hdd hlt hj hK0
              go_wp2_with fail
              go_meet
              case rel => exact ⟨0, rfl, HREL.out⟩
          case rest =>
            obtain ⟨k, rfl, hup⟩ := hcut
            have HUP := Lib.hid hup; clear hup HDL HO HB HA hsw
            go_wp2_with fail
            go_loopw [6, 8, 9, 10, 11, 12] (fun vo vk vn vi vb vf wr => ∃ (k : Nat) (n i b : Int) (f : Bool), RdUp w (lst s) vo k n i b f wr ∧ vk = .int .i64 k ∧ vf = .bool f ∧ vn = .int .i64 n ∧ vi = .int .i64 i ∧ vb = .int .i64 b ∧ 128 ≤ n ∧ n ≤ 1114111 ∧ 0 ≤ b ∧ b ≤ 720) (fun _ vk _ _ _ _ _ => s.size - (intOf vk).toNat)
            case atStart => exact ⟨k, 128, 0, 72, true, HUP.out, rfl, rfl, rfl, rfl, rfl, by omega, by omega, by omega, by omega⟩
            case round =>
              obtain ⟨k, n, i, b, f, ⟨out, A', c', rfl, ho, hb, hkl, hlen, hdc, i0, i1⟩, rfl, rfl, rfl, rfl, rfl, n0, n1, b0, b1⟩ := hrel
              have HO := Lib.hid ho; have HB := Lib.hid hb; have HDC := Lib.hid hdc
              have hsw := hb.size
              rw [lst_length] at hkl hlen
              clear ho hb hdc HUP HDEC hlt hj
              by_cases hks : k < s.size
              · have hne : (lst s).drop k ≠ [] := by
                  intro e
                  have := congrArg List.length e
                  rw [List.length_drop, lst_length] at this
                  simp at this; omega
                have hst := dec_step hne n i b f out
                have HST := Lib.hid hst; clear hst hne
                have hnum := rread_any s k b b0 (by omega) (by omega) hkl wr
                have HNUM := Lib.hid hnum; clear hnum
                go_wp2_with fail
                refine HNUM.out.mono ?_
                rintro e w2 ⟨rfl, hw2⟩
                subst hw2
                cases hr : Pn.rd ((lst s).drop k) 0 0 1 b with
                | none =>
                  have hbad := HST.out
                  rw [hr] at hbad
                  have HBAD := Lib.hid (HDC.out.symm.trans hbad)
                  clear hbad hr
                  unfold rdRet
                  go_wp2
                  go_ret2
                  exact RetIE.bad HBAD.out HB.out
                | some z =>
                  obtain ⟨v, r⟩ := z
                  obtain ⟨v0, v1, r1, r2⟩ := Pn.rd_bd ((lst s).drop k) 0 0 1 b v r (by omega) (by omega) hr
                  have hst := HST.out
                  rw [hr] at hst
                  have HS2 := Lib.hid (HDC.out.symm.trans hst)
                  rw [List.length_drop, lst_length] at r1
                  have hrd : (lst s).drop (s.size - r.length) = r := by
                    have := List.suffix_iff_eq_drop.1 (r2.trans (List.drop_suffix k (lst s)))
                    rw [lst_length] at this
                    exact this.symm
                  have HRD := Lib.hid hrd
                  clear hst hr r2 hrd
                  unfold rdRet
                  have hz1 : k < s.size - r.length := by omega
                  have hz2 : s.size - r.length ≤ s.size := by omega
                  have hz3 : s.size - (s.size - r.length) = r.length := by omega
                  by_cases hbig : 2147483647 < v
                  · have hd := HS2.out
                    try simp only at hd
                    rw [if_pos (.inl hbig)] at hd
                    have HD := Lib.hid hd; clear hd
                    go_wp2
                    go_ret2
                    exact RetIE.bad HD.out HB.out
                  · have hL : (0 : Int) < (out.length : Int) + 1 := by omega
                    have q0 : 0 ≤ (v + i) / ((out.length : Int) + 1) := Int.ediv_nonneg (by omega) (by omega)
                    have q1 : (v + i) / ((out.length : Int) + 1) ≤ v + i := Int.ediv_le_self _ (by omega)
                    have m0 := Int.emod_nonneg (v + i) (show (out.length : Int) + 1 ≠ 0 by omega)
                    have m1 := Int.emod_lt_of_pos (v + i) hL
                    have t1 : IntKind.i64.wrap (v + i) = v + i := IntWalk.i64_in _ (by omega)
                    have t2 : (v + i).tdiv ((out.length : Int) + 1) = (v + i) / ((out.length : Int) + 1) := Int.tdiv_eq_ediv_of_nonneg (by omega)
                    have t3 : (v + i).tmod ((out.length : Int) + 1) = (v + i) % ((out.length : Int) + 1) := Int.tmod_eq_emod_of_nonneg (by omega)
                    have hnz : ¬ ((out.length : Int) + 1 = 0) := by omega
                    generalize hq : (v + i) / ((out.length : Int) + 1) = qq at *
                    generalize hm : (v + i) % ((out.length : Int) + 1) = mm at *
                    have t4 : IntKind.i64.wrap qq = qq := IntWalk.i64_in _ (by omega)
                    have t5 : IntKind.i64.wrap (n + qq) = n + qq := IntWalk.i64_in _ (by omega)
                    have t6 : IntKind.i64.wrap mm = mm := IntWalk.i64_in _ (by omega)
                    have HQ := Lib.hid hq; have HM := Lib.hid hm
                    clear hq hm
                    have hd := HS2.out
                    try simp only at hd
                    rw [HQ.out, HM.out] at hd
                    by_cases hbig2 : 1114111 < n + qq
                    · rw [if_pos (.inr hbig2)] at hd
                      have HD := Lib.hid hd; clear hd
                      go_wp2
                      go_ret2
                      exact RetIE.bad HD.out HB.out
                    · rw [if_neg (by omega)] at hd
                      have HD := Lib.hid hd; clear hd
                      go_wp2_with fail
                      go_quiet (fail)
                      clear t1 t2 t3 t4 t5 t6 hnz
                      replace HO := Lib.hid (show (wr.drewN nq).ownsRow w.heap.size 3 1 (.slice A' out.length c') out.length (ints out) from HO.out)
                      replace HB := Lib.hid (below_drewN HB.out nq)
                      have hsq2 : w.heap.size ≤ (wr.drewN nq).heap.size := hsw
                      generalize wr.drewN nq = wn at *
                      have hsz0 : s.size ≤ 2048 := hs2
                      go_wp2_with fail
                      refine (rscalar_any (n + qq) _).mono ?_
                      rintro e w9 ⟨rfl, hw9⟩
                      subst hw9
                      have hd := HD.out
                      cases hsc : Pn.scalar (n + qq)
                      · rw [hsc] at hd
                        have HD := Lib.hid (show Pn.decP (lst s) = ([], 12) from hd); clear hd hsc
                        go_wp2
                        go_ret2
                        exact RetIE.bad HD.out HB.out
                      · rw [hsc, if_pos rfl] at hd
                        have HD := Lib.hid hd; clear hd hsc
                        go_wp2_with fail
                        refine (radapt_any v ((out.length : Int) + 1) f wn).mono ?_
                        have ha0 := (Pn.adapt_bd v ((out.length : Int) + 1) f).1
                        have ha1 := (Pn.adapt_bd v ((out.length : Int) + 1) f).2
                        generalize Pn.adapt v ((out.length : Int) + 1) f = ad at *
                        rintro e w6 ⟨rfl, hw6⟩
                        subst hw6
                        obtain ⟨M, rfl⟩ := Int.eq_ofNat_of_zero_le m0
                        have hM : M ≤ out.length := by omega
                        obtain ⟨hs1, A2, c2, hs2, hr1, hr2⟩ := cut_row HO.out hM
                        have HR1 := Lib.hid hr1; have HR2 := Lib.hid hr2; clear hr1 hr2
                        go_wp2_with (at_builtin; refine app_int (by rfl) _ _ rfl (base := wn.heap.size) (xs := []) rfl (World.ownsRow_nil _ _ _ _) rfl HR1.out (by omega) (by omega) ?_)
                        intro A5 c5 w5 ho5 hg5 hc5
                        have HB5 := Lib.hid (show Below wn.heap.size wn w5 from (Below.refl wn.heap.size wn).grown hg5 (Nat.le_refl _) (fun q h => by cases h))
                        have HO5 := Lib.hid (show w5.ownsRow wn.heap.size 3 1 (.slice A5 M c5) M (ints (out.take M)) from ho5)
                        have hz5 := HB5.out.size
                        clear ho5 hg5 hc5
                        go_wp2_with (at_builtin; refine app_int (by rfl) _ _ rfl (base := wn.heap.size) rfl (HO5.out.alloc _) rfl (rd_one_int (z := w5.heap.size) rfl (n + qq)) (by omega) (by simp <;> omega) ?_)
                        intro A6 c6 w6 ho6 hg6 hc6
                        have HB6 := Lib.hid (own_below HO5.out HB5.out _ hg6 hz5)
                        have HO6 := Lib.hid ho6
                        have hz6 := HB6.out.size
                        have HR6 := Lib.hid (HR2.out.below HB6.out)
                        clear ho6 hg6 hc6
                        go_wp2_with (at_builtin; refine app_int (by rfl) _ _ rfl (base := wn.heap.size) rfl HO6.out rfl HR6.out (by omega) (by omega) ?_)
                        intro A7 c7 w7 ho7 hg7 hc7
                        have HB7 := Lib.hid (show Below wn.heap.size wn w7 from HB6.out.grown hg7 hz6 (fun q h => (HO6.out.lt q h).1))
                        have hil := ins_length out M (n + qq) hM
                        have hlen7 : M + 1 + (out.length - M) = (Pn.ins out M (n + qq)).length := by rw [hil]; omega
                        rw [hlen7] at ho7 ⊢
                        have HO7 := Lib.hid (show w7.ownsRow w.heap.size 3 1 (.slice A7 (Pn.ins out M (n + qq)).length c7) (Pn.ins out M (n + qq)).length (ints (Pn.ins out M (n + qq))) from by
                          have := own_low ho7 hsq2
                          unfold Pn.ins at this ⊢
                          simpa using this)
                        have HB8 := Lib.hid (HB.out.trans (HB7.out.mono hsq2))
                        have HIL := Lib.hid hil
                        clear ho7 hg7 hc7 hil hlen7 hs1 hs2
                        go_wp2
                        go_roundw
                        case rel =>
                          refine ⟨s.size - r.length, n + qq, (M : Int) + 1, ad, false, ⟨Pn.ins out M (n + qq), A7, c7, rfl, HO7.out, HB8.out, by rw [lst_length]; omega, by rw [HIL.out, lst_length]; omega, ?_, by omega, by rw [HIL.out]; omega⟩, rfl, rfl, rfl, by go_num, rfl, by omega, by omega, ha0, ha1⟩
                          have := HD.out
                          rw [Int.toNat_natCast] at this
                          rw [HRD.out]
                          exact this.symm
                        case measure => simp [intOf]; omega
              · have hd0 : (lst s).drop k = [] := List.drop_of_length_le (by rw [lst_length]; omega)
                have hfin : Pn.decP (lst s) = (out, 0) := by rw [← HDC.out, hd0]; unfold Pn.dec; rw [if_pos rfl]
                have HF := Lib.hid hfin; clear hfin hd0
                go_wp2
                go_ret2
                rw [HF.out]
                exact ⟨A', c', rfl, HO.out, HB.out⟩
end Go.Proofs.Ytoihjbiahccaaaa
