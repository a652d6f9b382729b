/- The walk of the law PunyCase. -/
import Derived.Test.YtoihjbiahccaaaaPtN
import Derived.Test.YtoihjbiahccaaaaPnCaM
import Derived.Test.YtoihjbiahccaaaaReEn
import Derived.Test.YtoihjbiahccaaaaSamK
import Derived.Laws.RangeString
import Derived.Laws.RangeAny
namespace Go.Proofs.Ytoihjbiahccaaaa
open Go Go.RowKit
set_option linter.unusedVariables false

theorem enc_ascii (l : List Int) (hs : ∀ c ∈ l, Pn.scalar c = true) : ∀ b ∈ Pn.enc l, b.toNat < 128 := by
  intro b hb
  unfold Pn.enc Pn.front at hb
  rw [List.mem_append, List.mem_append] at hb
  rcases hb with (hb | hb) | hb
  · obtain ⟨c, h1, rfl⟩ := List.mem_map.1 hb
    unfold Pn.basics at h1
    rw [List.mem_filter] at h1
    have h2 := of_decide_eq_true h1.2
    have h3 := (Pn.scalar_bd (hs c h1.1)).1
    have h4 := Pn.byte_num c h3 (by omega)
    omega
  · split at hb
    · cases hb
    · rw [List.mem_singleton.1 hb]; decide
  · obtain ⟨d, h1, rfl⟩ := List.mem_map.1 hb
    obtain ⟨h2, h3⟩ := Pn.tl_bd l l.length 128 0 (Pn.st0 l) (Pn.left_le _ _ _) (Pn.inv_start l) d h1
    have := Pn.dgt_low d h2 h3
    omega
/-- Block g holds the bytes L. -/
def Bys (w : World) (g : Nat) (L : List UInt8) : Prop := ∀ j b, L[j]? = some b → w.cell? ⟨g, j, none⟩ = some (.int .u8 (b.toNat : Int)) ∧ w.frozen? ⟨g, j, none⟩ = false
theorem Bys.put {w : World} {g : Nat} {L : List UInt8} {k : Nat} {b c : UInt8} {v : Int} (h : Bys w g L) (hk : L[k]? = some b) (hv : (c.toNat : Int) = v) : Bys (w.setCell ⟨g, k, none⟩ (.int .u8 v)) g (L.set k c) := by
  subst hv
  intro j x hj
  by_cases e : j = k
  · subst e
    rw [List.getElem?_set_self (List.getElem?_eq_some_iff.1 hk).1] at hj
    injection hj with hj; subst hj
    obtain ⟨h1, h2⟩ := h j b hk
    exact ⟨World.cell?_setCell_same _ _ _ h1, by rw [World.frozen?_setCell]; exact h2⟩
  · rw [List.getElem?_set_ne (fun e2 => e e2.symm)] at hj
    obtain ⟨h1, h2⟩ := h j x hj
    exact ⟨by rw [World.cell?_setCell_other _ _ _ _ (by intro e2; injection e2 with _ e3 _; exact e e3.symm), h1], by rw [World.frozen?_setCell]; exact h2⟩
theorem Bys.conv {w : World} {g n c : Nat} {L : List UInt8} (h : Bys w g L) (hn : L.length = n) :
    (convert 38 9 (.slice (some ⟨g, 0, none⟩) n c)).run Try.prog w = .ok (.string (str L)) w := by
  subst hn
  exact run_convert_bytes_back (P := Try.prog) w 38 9 5 ⟨g, 0, none⟩ c L Try.underlying38 Try.underlying5 Try.underlying9 (fun j hj => by
    rw [addp, Nat.zero_add, (h j L[j] (List.getElem?_eq_getElem hj)).1])
set_option maxRecDepth 100000 in
set_option maxHeartbeats 8000000 in
theorem walk_PunyCase (a0 : Option Addr) (c0 : Nat) (x0 : List Int) (a1 : Int) (w : World) (r0 : Rd w w.heap.size 1 a0 x0.length (ints x0)) (m0 : x0.length ≤ maxLen) (f0 : ∀ n ∈ x0, (Lit.int .i64 n).wf = true) (w1 : (Lit.int .i64 a1).wf = true) :
    Calls Try.prog 9 #[.slice a0 x0.length c0, .int .i64 a1] w fun e w' => e = .returned (.bool true) ∧ Below w.heap.size w w' := by
  have hp1 := Pn.lp_len x0; have hp2 := Pn.lp_scalar x0
  have henc := encP_good (l := Pn.lp x0) (by omega) hp2
  have hes := Pn.enc_len (Pn.lp x0) (fun c hc => (Pn.scalar_bd (hp2 c hc)).2) (by omega)
  have hdec := Pn.decP_back (Pn.lp x0) (List.all_eq_true.2 hp2) (by omega) (by omega)
  have hasc := enc_ascii (Pn.lp x0) hp2
  obtain ⟨D, hD1, hD2⟩ := Pn.enc_form (Pn.lp x0)
  have hF := Pn.front_form (Pn.lp x0)
  have hpt := points_any a0 c0 x0 w r0 m0
  have HPT := Lib.hid hpt
  have hstp := Pn.stp_enc (Pn.front (Pn.lp x0)) D hF hD2 D.length (Nat.le_refl _)
  rw [← List.length_append, ← hD1] at hstp
  have hcap : ∀ L, Pn.Capd (Pn.front (Pn.lp x0)).length (Pn.enc (Pn.lp x0)) L → Pn.decP L = (Pn.lp x0, 0) := by
    intro L h
    rw [hD1] at h
    rw [h.decP hF hD2, ← hD1]; exact hdec
  have hcs : Pn.Capd (Pn.front (Pn.lp x0)).length (Pn.enc (Pn.lp x0)) (Pn.enc (Pn.lp x0)) := by rw [hD1]; exact Pn.Capd.start hD2
  have hfl : (Pn.front (Pn.lp x0)).length ≤ (Pn.enc (Pn.lp x0)).length := by rw [hD1, List.length_append]; omega
  have HE := Lib.hid henc; have HCAP := Lib.hid hcap; have HCS := Lib.hid hcs; have HST := Lib.hid hstp; have HASC := Lib.hid hasc
  clear r0 m0 f0 w1 hp2 henc hpt hdec hD1 hD2 hF hstp hcap hcs hasc
  generalize Pn.lp x0 = p at *
  go_enter Try.func9, Try.ntmps9
  go_wp2_with fail
  refine HPT.out.mono ?_
  rintro e w1 ⟨A1, c1, rfl, ho1, hb1⟩
  have HR1 := Lib.hid (Rd.of_own ho1); have HB1 := Lib.hid hb1
  have hsz1 := hb1.size
  clear ho1 hb1
  go_wp2_with fail
  have hct := rencode_any A1 c1 p w1.heap.size w1 HR1.out (Nat.le_refl _) (by omega)
  rw [HE.out] at hct
  refine hct.mono ?_
  clear hct HE
  rintro e w2 ⟨rfl, hb2⟩
  have HR2 := Lib.hid (HR1.out.below hb2)
  have hsz12 := hb2.size
  have HB2 := Lib.hid (HB1.out.trans (hb2.mono hsz1)); have hsz2 := HB2.out.size
  clear hb2
  generalize (Pn.front p).length = F at *
  generalize Pn.enc p = T at *
  have hzT : (str T).size = T.length := str_size T
  go_wp2_with fail
  go_loopw [8] (fun vs wr => ∃ k : Nat, k ≤ T.length ∧ wr = w2.iter (str T) k ∧ vs = .int .i64 (Pn.stp T k : Nat)) (fun _ wr => T.length - wr.iterPos w2.heap.size)
  case atStart => exact ⟨0, by omega, rfl, rfl⟩
  case round =>
    obtain ⟨k, hk, rfl, rfl⟩ := hrel
    have hsl := Pn.stp_le T k
    by_cases hlt : k < T.length
    · have hks : k < (str T).size := by omega
      have hat := lst_at (str T) k hks
      rw [lst_str] at hat
      have ha := HASC.out _ (List.mem_of_getElem? hat)
      have hnx : ∀ ty, (Instr.next (.pointer (some ⟨w2.heap.size, 0, none⟩)) true ty).run Try.prog (w2.iter (str T) k) = _ := fun ty => run_next_ascii w2 (str T) k ty hks ha
      have hst : Pn.stp T (k + 1) = if T[k]? = some 45 then k + 1 else Pn.stp T k := rfl
      rw [hat] at hst
      by_cases h45 : (str T)[k] = 45
      · rw [h45, if_pos rfl] at hst
        have HS := Lib.hid hst
        have g1 : ((str T)[k].toNat : Int) = 45 := by rw [h45]; rfl
        have g2 : (((str T)[k].toNat : Int) == 45) = true := by rw [g1]; rfl
        clear hat ha hst h45 g1
        go_wp2
        go_roundw
        case rel => exact ⟨k + 1, by omega, rfl, by rw [HS.out]; go_num⟩
        case measure => simp; omega
      · have h45' : ¬ (some (str T)[k] = some (45 : UInt8)) := fun e => h45 (by injection e)
        rw [if_neg h45'] at hst
        have HS := Lib.hid hst
        have g2 : (((str T)[k].toNat : Int) == 45) = false := by
          rw [beq_eq_false_iff_ne]
          intro e
          apply h45
          apply UInt8.toNat_inj.1
          show (str T)[k].toNat = 45
          omega
        clear hat ha hst h45 h45'
        go_wp2
        go_roundw
        case rel => exact ⟨k + 1, by omega, rfl, by rw [HS.out]⟩
        case measure => simp; omega
    · have hkn : k = T.length := by omega
      have hnx : ∀ ty, (Instr.next (.pointer (some ⟨w2.heap.size, 0, none⟩)) true ty).run Try.prog (w2.iter (str T) k) = _ := fun ty => run_next_end w2 (str T) k ty (by omega)
      have HB3 := Lib.hid (show Below w.heap.size w (w2.iter (str T) k) from HB2.out.alloc hsz2 _)
      have HR3 := Lib.hid (show Rd (w2.iter (str T) k) w1.heap.size 1 A1 p.length (ints p) from HR2.out.alloc hsz12 _)
      have hss : Pn.stp T k = F := by rw [hkn]; exact HST.out
      rw [hss]
      have hz3 : w1.heap.size ≤ (w2.iter (str T) k).heap.size := by
        show w1.heap.size ≤ (w2.alloc _).heap.size
        simp; omega
      have hz3w : w.heap.size ≤ (w2.iter (str T) k).heap.size := HB3.out.size
      obtain ⟨cc, w3, hcv, hbl3, hsz3, hcc, hcells, hfz⟩ := conv_bytes (str T) (w2.iter (str T) k)
      have hby : Bys w3 (w2.iter (str T) k).heap.size T := fun j b hj => ⟨hcells j b hj, hfz j (by have := (List.getElem?_eq_some_iff.1 hj).1; omega)⟩
      have HBY := Lib.hid hby
      have HB4 := Lib.hid (HB3.out.trans (hbl3.mono hz3w))
      have HR4 := Lib.hid (HR3.out.below (hbl3.mono hz3))
      have hgw : w.heap.size ≤ (w2.iter (str T) k).heap.size := hz3w
      have hT122 : T.length ≤ 122 := by omega
      have hz34 : w1.heap.size ≤ w3.heap.size := by omega
      clear hlt hss hsl hby hbl3 hcells hfz hkn hk
      go_wp2_with fail
      clear hnx hcv
      generalize hg : (w2.iter (str T) k).heap.size = g at *
      clear hg
      go_loopw [11] (fun vi wr => ∃ (j : Nat) (L : List UInt8), F ≤ j ∧ j ≤ T.length ∧ vi = .int .i64 j ∧ Pn.Capd F T L ∧ Bys wr g L ∧ Below w.heap.size w wr ∧ Rd wr w1.heap.size 1 A1 p.length (ints p) ∧ w1.heap.size ≤ wr.heap.size) (fun vi _ => T.length - (intOf vi).toNat)
      case atStart => exact ⟨F, T, Nat.le_refl _, hfl, rfl, HCS.out, HBY.out, HB4.out, HR4.out, hz34⟩
      case round =>
        obtain ⟨j, L, hj1, hj2, rfl, hcap, hby, hb, hr, hz4⟩ := hrel
        have HC := Lib.hid hcap; have HY := Lib.hid hby; have HB := Lib.hid hb; have HR := Lib.hid hr
        have hLl := hcap.1
        clear hcap hby hb hr HBY HB4 HR4
        by_cases hlt : j < T.length
        · have hat : L[j]? = some (L[j]'(by omega)) := List.getElem?_eq_getElem (by omega)
          generalize L[j]'(by omega) = b at *
          obtain ⟨hc1, hc2⟩ := HY.out j b hat
          have hji : (j : Int) < (T.length : Int) := by omega
          have hb256 := b.toNat_lt
          have hcs : (97 ≤ b.toNat ∧ b.toNat ≤ 122) ∨ b.toNat < 97 ∨ (97 ≤ b.toNat ∧ 122 < b.toNat) := by omega
          rcases hcs with hcs | hcs | ⟨hcs, hcs2⟩
          · have HPU := Lib.hid (HC.out.put hat hj1 hcs)
            have HPY := Lib.hid (HY.out.put hat (Pn.cap_val hcs).2.2)
            have HPB := Lib.hid (HB.out.setCell (p := ⟨g, j, none⟩) hgw (.int .u8 ((b.toNat : Int) - 32)))
            have HPR := Lib.hid (HR.out.setCell (p := ⟨g, j, none⟩) hz3 (.int .u8 ((b.toNat : Int) - 32)))
            obtain ⟨g1, g2⟩ := hcs
            have g3 : (97 : Int) ≤ (b.toNat : Int) := by omega
            have g4 : (b.toNat : Int) ≤ 122 := by omega
            have g5 : IntKind.u8.wrap ((b.toNat : Int) - 32) = (b.toNat : Int) - 32 := by rw [IntKind.wrap_u8]; omega
            clear hat g1 g2
            go_wp2_with fail
            refine (pick_any _ 2 (by omega) (by omega) _).mono ?_
            rintro e w9 ⟨rfl, hpw⟩
            subst hpw
            have q0 := Kp.pick_lo (wrap64 (a1 + (j : Int))) 2 (by omega)
            have q1 := Kp.pick_hi (wrap64 (a1 + (j : Int))) 2 (by omega)
            generalize Kp.pick (wrap64 (a1 + (j : Int))) 2 = q at *
            have hq : q = 0 ∨ q = 1 := by omega
            clear q0 q1
            rcases hq with rfl | rfl
            · go_wp2
              go_roundw
              case rel => exact ⟨j + 1, _, by omega, by omega, by go_num, HPU.out, HPY.out, HPB.out, HPR.out, by simp; exact hz4⟩
              case measure => simp [intOf]; omega
            · go_wp2
              go_roundw
              case rel => exact ⟨j + 1, L, by omega, by omega, by go_num, HC.out, HY.out, HB.out, HR.out, hz4⟩
              case measure => simp [intOf]; omega
          · have g3 : ¬ (97 : Int) ≤ (b.toNat : Int) := by omega
            clear hat hcs
            go_wp2
            go_roundw
            case rel => exact ⟨j + 1, L, by omega, by omega, by go_num, HC.out, HY.out, HB.out, HR.out, hz4⟩
            case measure => simp [intOf]; omega
          · have g3 : (97 : Int) ≤ (b.toNat : Int) := by omega
            have g4 : ¬ (b.toNat : Int) ≤ 122 := by omega
            clear hat hcs hcs2
            go_wp2
            go_roundw
            case rel => exact ⟨j + 1, L, by omega, by omega, by go_num, HC.out, HY.out, HB.out, HR.out, hz4⟩
            case measure => simp [intOf]; omega
        · have hji : ¬ (j : Int) < (T.length : Int) := by omega
          have hdp := HCAP.out L HC.out
          have hcv := fun c => HY.out.conv (n := T.length) (c := c) hLl
          have hdd := decode_any (str L) (by rw [str_size]; omega) wr
          rw [lst_str, hdp] at hdd
          have HDD := Lib.hid hdd
          have hswr := HB.out.size
          clear hdd hdp
          go_wp2_with fail
          refine HDD.out.mono ?_
          rintro e w5 ⟨A5, c5, rfl, ho5, hb5⟩
          have HR5 := Lib.hid (HR.out.below (hb5.mono hz4))
          have HO5 := Lib.hid (Rd.of_own ho5)
          have hsz5 := hb5.size
          have HB5 := Lib.hid (HB.out.trans (hb5.mono hswr)); have hszw5 := HB5.out.size
          clear hb5 ho5 hcv
          go_wp2_with fail
          refine (awake10_any _).mono ?_
          rintro e w6 ⟨rfl, hb6⟩
          have HR6 := Lib.hid (HR5.out.below (hb6.mono (show w1.heap.size ≤ w5.heap.size by omega)))
          have HO6 := Lib.hid (HO5.out.below hb6)
          have HB6 := Lib.hid (HB5.out.trans (hb6.mono hszw5))
          clear hb6
          go_wp2_with fail
          refine (same_ok A5 A1 p.length p.length c5 c1 p p w5.heap.size w6 HO6.out (Rd.more HR6.out (by omega)) (by unfold maxLen; omega) (by unfold maxLen; omega) rfl).mono ?_
          rintro e w7 ⟨rfl, q7, rfl⟩
          go_wp2
          go_ret
          exact ⟨rfl, below_drewN HB6.out _⟩
end Go.Proofs.Ytoihjbiahccaaaa
