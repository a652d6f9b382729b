/- The walks of keep.pool, keep.point and keep.Points. -/
import Derived.Test.YtddlafcnfdohnaaDoorSrc
import Derived.Test.YtddlafcnfdohnaaDoorAppend
import Derived.Deep.RegionWith
namespace Go.Proofs.YtddlafcnfdohnaaDoor
open Go Go.RowKit
set_option linter.unusedVariables false

/-- What keep.pool returns. -/
def pool : List Int := [0xad, 0xb7, 0x301, 0x308, 0x323, 0x345, 0x375, 0x3b1, 0x3b2, 0x3b3, 0x430, 0x5d0, 0x5f3, 0x628, 0x629, 0x660, 0x6f0, 0x94d, 0x1e00, 0x1e01, 0x1e02, 0x1e03, 0x1e04, 0x200c, 0x200d, 0x30fb, 0x4e00, 0x1f600]
def poolChars : List Int := [97, 98, 109, 110, 111, 114, 48, 45, 120, 65, 90, 49]
/-- What keep.point returns, of its two choices. -/
def ptval (k : Int) (f : Int → Int) : Int :=
  if k < 3 then poolChars.getD (f 12).toNat 0 else if k = 3 then 44032 + f 60 else if k = 4 then [0x1100, 0x1161, 0x11a8, 46].getD (f 4).toNat 0 else pool.getD (f 28).toNat 0
def ptv (xs : List Int) (i : Nat) : Int := ptval (Kp.nx xs i 8) (fun m => Kp.nx xs (Kp.ad xs i) m)
def RetPt (xs : List Int) (g : Nat) (A : Option Addr) (c i : Nat) (w : World) (e : Ending) (w' : World) : Prop :=
  e = .returned (.int .i64 (ptv xs i)) ∧ Src w' g A xs.length c (Kp.ad xs (Kp.ad xs i)) ∧ w.grownBy w' (some g)

set_option maxHeartbeats 400000 in
theorem pool_any (w : World) : Calls Tryd.prog 25 #[] w (RetI 3 pool w) := by
  go_enter Tryd.func25, Tryd.ntmps25
  go_wp2
  go_ret
  exact RetI.built _ _ _ _ _ rfl rfl (by decide)

theorem own_src {w w' : World} {g : Nat} {A : Option Addr} {n c i : Nat} (hs : Src w g A n c i) (hb : Below w.heap.size w w') : Src w' g A n c i := Bk.below hs hb hs.lt

theorem char_fin : ∀ n : Fin 12, wrap64 (((⟨#[97, 98, 109, 110, 111, 114, 48, 45, 120, 65, 90, 49]⟩ : ByteArray)[n.1]'(n.2)).toNat : Int) = poolChars.getD n.1 0 := by decide +kernel
theorem char_at (n : Nat) (h : n < 12) : wrap64 (((⟨#[97, 98, 109, 110, 111, 114, 48, 45, 120, 65, 90, 49]⟩ : ByteArray)[((n : Int)).toNat]'(h)).toNat : Int) = poolChars.getD ((n : Int)).toNat 0 := char_fin ⟨n, h⟩

set_option maxHeartbeats 2000000 in
theorem point_any (g : Nat) (A : Option Addr) (c : Nat) (xs : List Int) (i B : Nat) (w : World) (hs : Src w g A xs.length c i)
    (hr : Rd w B 1 A xs.length (ints xs)) (hB : B ≤ g) (hl : xs.length ≤ maxLen) :
    Calls Tryd.prog 20 #[.pointer (some ⟨g, 0, none⟩)] w (RetPt xs g A c i w) := by
  have hgw : g < w.heap.size := hs.lt
  have HS := Lib.hid hs; have HR := Lib.hid hr; have HL := Lib.hid hl; clear hs hr hl
  go_enter Tryd.func20, Tryd.ntmps20
  go_wp2_with fail
  refine (pool_any _).mono ?_
  rintro e w1 ⟨Ap, cp, rfl, hop, hbp⟩
  have HS1 := Lib.hid (own_src HS.out hbp); have HR1 := Lib.hid (HR.out.below (hbp.mono (show B ≤ w.heap.size by omega)))
  obtain ⟨gp, rfl, hgp, hgpl, _, hpc, _⟩ := own_at hop (by decide)
  have HP := Lib.hid hpc; clear hpc
  have HG1 := Lib.hid (only_below (only_refl w (some g)) hbp)
  have hsz1 := hbp.size
  clear hop hbp HS HR
  go_wp2_with fail
  refine (next_any _ _ _ _ _ 8 (by omega) (by omega) B _ HS1.out HR1.out (by omega) HL.out).mono ?_
  rintro e w2 ⟨rfl, hs2, hg2⟩
  have hsz2 := hg2.size
  have hpc2 : ∀ j u, (ints pool)[j]? = some u → w2.cell? ⟨gp, j, none⟩ = some u := fun j u hu => (World.cell?_of_block (w := w1) (a := ⟨gp, j, none⟩) (hg2.block gp hgpl (by intro e; injection e; omega))).trans (HP.out j u hu)
  have HP2 := Lib.hid hpc2; clear hpc2
  have HR2 := Lib.hid (HR1.out.grown hg2 (by omega) (fun q hq => by injection hq; omega))
  have HG2 := Lib.hid (only_trans HG1.out hg2)
  clear hg2 HG1 HS1 HR1
  have hk0 := Kp.nx_lo xs i 8 (by omega)
  have hk1 := Kp.nx_hi xs i 8 (by omega)
  have HS2 := Lib.hid hs2; clear hs2
  have hv : ptv xs i = ptval (Kp.nx xs i 8) (fun m => Kp.nx xs (Kp.ad xs i) m) := rfl
  generalize hk : Kp.nx xs i 8 = k at *
  have HV := Lib.hid hv; clear hv hk
  have hbg : B ≤ g := hB
  by_cases h3 : k < 3
  · have hv3 : ptv xs i = poolChars.getD (Kp.nx xs (Kp.ad xs i) 12).toNat 0 := by rw [HV.out]; unfold ptval; rw [if_pos h3]
    have HV3 := Lib.hid hv3; clear hv3 HV
    have hn0 := Kp.nx_lo xs (Kp.ad xs i) 12 (by omega)
    have hn1 := Kp.nx_hi xs (Kp.ad xs i) 12 (by omega)
    have hk012 : k = 0 ∨ k = 1 ∨ k = 2 := by omega
    clear h3 hk0 hk1
    rcases hk012 with rfl | rfl | rfl
    · go_wp2_with fail
      refine (next_any _ _ _ _ _ 12 (by omega) (by omega) B _ HS2.out HR2.out (by omega) HL.out).mono ?_
      rintro e w3 ⟨rfl, hs3, hg3⟩
      have HS3 := Lib.hid hs3; have HG3 := Lib.hid (only_trans HG2.out hg3); clear hs3 hg3
      generalize hn : Kp.nx xs (Kp.ad xs i) 12 = n at *
      clear hn
      go_wp2
      go_ret
      refine ⟨ret_int ?_, HS3.out, HG3.out⟩
      rw [HV3.out]
      obtain ⟨m, rfl⟩ := Int.eq_ofNat_of_zero_le hn0
      exact char_at m (by omega)
    · go_wp2_with fail
      refine (next_any _ _ _ _ _ 12 (by omega) (by omega) B _ HS2.out HR2.out (by omega) HL.out).mono ?_
      rintro e w3 ⟨rfl, hs3, hg3⟩
      have HS3 := Lib.hid hs3; have HG3 := Lib.hid (only_trans HG2.out hg3); clear hs3 hg3
      generalize hn : Kp.nx xs (Kp.ad xs i) 12 = n at *
      clear hn
      go_wp2
      go_ret
      refine ⟨ret_int ?_, HS3.out, HG3.out⟩
      rw [HV3.out]
      obtain ⟨m, rfl⟩ := Int.eq_ofNat_of_zero_le hn0
      exact char_at m (by omega)
    · go_wp2_with fail
      refine (next_any _ _ _ _ _ 12 (by omega) (by omega) B _ HS2.out HR2.out (by omega) HL.out).mono ?_
      rintro e w3 ⟨rfl, hs3, hg3⟩
      have HS3 := Lib.hid hs3; have HG3 := Lib.hid (only_trans HG2.out hg3); clear hs3 hg3
      generalize hn : Kp.nx xs (Kp.ad xs i) 12 = n at *
      clear hn
      go_wp2
      go_ret
      refine ⟨ret_int ?_, HS3.out, HG3.out⟩
      rw [HV3.out]
      obtain ⟨m, rfl⟩ := Int.eq_ofNat_of_zero_le hn0
      exact char_at m (by omega)
  · by_cases hk3 : k = 3
    · have hv3 : ptv xs i = 44032 + Kp.nx xs (Kp.ad xs i) 60 := by rw [HV.out]; unfold ptval; rw [if_neg h3, if_pos hk3]
      have HV3 := Lib.hid hv3; clear hv3 HV h3
      have hn0 := Kp.nx_lo xs (Kp.ad xs i) 60 (by omega)
      have hn1 := Kp.nx_hi xs (Kp.ad xs i) 60 (by omega)
      subst hk3
      clear hk0 hk1
      go_wp2_with fail
      refine (next_any _ _ _ _ _ 60 (by omega) (by omega) B _ HS2.out HR2.out (by omega) HL.out).mono ?_
      rintro e w3 ⟨rfl, hs3, hg3⟩
      have HS3 := Lib.hid hs3; have HG3 := Lib.hid (only_trans HG2.out hg3); clear hs3 hg3
      generalize hn : Kp.nx xs (Kp.ad xs i) 60 = n at *
      clear hn
      go_wp2
      go_ret
      refine ⟨ret_int ?_, HS3.out, HG3.out⟩
      rw [HV3.out]
    · by_cases hk4 : k = 4
      · have hv3 : ptv xs i = [0x1100, 0x1161, 0x11a8, 46].getD (Kp.nx xs (Kp.ad xs i) 4).toNat 0 := by rw [HV.out]; unfold ptval; rw [if_neg h3, if_neg hk3, if_pos hk4]
        have HV3 := Lib.hid hv3; clear hv3 HV h3 hk3
        have hn0 := Kp.nx_lo xs (Kp.ad xs i) 4 (by omega)
        have hn1 := Kp.nx_hi xs (Kp.ad xs i) 4 (by omega)
        subst hk4
        clear hk0 hk1
        go_wp2_with fail
        have HB0 := Lib.hid (Bk.new w2 3 #[.int .i64 4352, .int .i64 4449, .int .i64 4520, .int .i64 46])
        have hgw2 : g < w2.heap.size := by omega
        refine (next_any _ _ _ _ _ 4 (by omega) (by omega) B _ (HS2.out.alloc _) (HR2.out.alloc (by omega) _) (by omega) HL.out).mono ?_
        rintro e w3 ⟨rfl, hs3, hg3⟩
        have HS3 := Lib.hid hs3; have HG3 := Lib.hid (only_trans (only_alloc HG2.out _) hg3)
        have hbk := HB0.out.grown hg3 (by intro e; injection e; omega)
        clear hs3 hg3 HB0
        generalize hn : Kp.nx xs (Kp.ad xs i) 4 = n at *
        clear hn
        have c0 := hbk.cell 0; have c1 := hbk.cell 1; have c2 := hbk.cell 2; have c3 := hbk.cell 3
        have HBK := Lib.hid hbk; clear hbk
        simp at c0 c1 c2 c3
        have hn4 : n = 0 ∨ n = 1 ∨ n = 2 ∨ n = 3 := by omega
        rcases hn4 with rfl | rfl | rfl | rfl
        all_goals
          go_wp2
          go_ret
          refine ⟨ret_int ?_, HS3.out, HG3.out⟩
          rw [HV3.out]
          rfl
      · have hv3 : ptv xs i = pool.getD (Kp.nx xs (Kp.ad xs i) 28).toNat 0 := by rw [HV.out]; unfold ptval; rw [if_neg h3, if_neg hk3, if_neg hk4]
        have HV3 := Lib.hid hv3; clear hv3 HV
        have hn0 := Kp.nx_lo xs (Kp.ad xs i) 28 (by omega)
        have hn1 := Kp.nx_hi xs (Kp.ad xs i) 28 (by omega)
        have e0 : (k == 0) = false := by rw [beq_eq_false_iff_ne]; omega
        have e1 : (k == 1) = false := by rw [beq_eq_false_iff_ne]; omega
        have e2 : (k == 2) = false := by rw [beq_eq_false_iff_ne]; omega
        have e3 : (k == 3) = false := by rw [beq_eq_false_iff_ne]; omega
        have e4 : (k == 4) = false := by rw [beq_eq_false_iff_ne]; omega
        have hpl : pool.length = 28 := rfl
        clear hk0 hk1 h3 hk3 hk4
        go_wp2_with fail
        refine (next_any _ _ _ _ _ 28 (by omega) (by omega) B _ HS2.out HR2.out (by omega) HL.out).mono ?_
        rintro e w3 ⟨rfl, hs3, hg3⟩
        have HS3 := Lib.hid hs3; have HG3 := Lib.hid (only_trans HG2.out hg3)
        have hpc3 : ∀ j u, (ints pool)[j]? = some u → w3.cell? ⟨gp, j, none⟩ = some u := fun j u hu => (World.cell?_of_block (w := w2) (a := ⟨gp, j, none⟩) (hg3.block gp (by omega) (by intro e; injection e; omega))).trans (HP2.out j u hu)
        clear hs3 hg3
        generalize hn : Kp.nx xs (Kp.ad xs i) 28 = n at *
        clear hn
        obtain ⟨m, rfl⟩ := Int.eq_ofNat_of_zero_le hn0
        have hm : m < pool.length := by omega
        have hcell : w3.cell? ⟨gp, m, none⟩ = some (.int .i64 pool[m]) := hpc3 m _ (by rw [ints_at, List.getElem?_eq_getElem hm]; rfl)
        have hgd : pool.getD m 0 = pool[m] := by rw [List.getD_eq_getElem?_getD, List.getElem?_eq_getElem hm]; rfl
        have HGD := Lib.hid hgd; clear hgd hpc3
        generalize pool[m] = u at *
        clear hpl hm
        go_wp2
        go_ret
        refine ⟨ret_int ?_, HS3.out, HG3.out⟩
        rw [HV3.out]
        exact HGD.out.symm

theorem own_lower' {w : World} {base base' : Nat} {e : TypeId} {size n : Nat} {v : Value} {xs : List Value} (h : w.ownsRow base e size v n xs) (hb : base' ≤ base) : w.ownsRow base' e size v n xs := by
  refine ⟨h.1, ?_⟩
  rcases h.2 with h2 | ⟨g, cap, cur, h1, h2, h3⟩
  · exact .inl h2
  · exact .inr ⟨g, cap, cur, h1, by omega, h3⟩
/-- Where the source of keep.Points stands before point k; the first k points. -/
def ptpos (xs : List Int) : Nat → Nat
  | 0 => Kp.ad xs 0
  | k + 1 => Kp.ad xs (Kp.ad xs (ptpos xs k))
def ptsUp (xs : List Int) : Nat → List Int
  | 0 => []
  | k + 1 => ptsUp xs k ++ [ptv xs (ptpos xs k)]
/-- What keep.Points returns. -/
def pts (xs : List Int) : List Int := ptsUp xs (Kp.nx xs 0 11).toNat
theorem ptsUp_length (xs : List Int) : ∀ k, (ptsUp xs k).length = k
  | 0 => rfl
  | k + 1 => by simp [ptsUp, ptsUp_length xs k]
theorem pts_length (xs : List Int) : (pts xs).length ≤ 10 := by
  unfold pts; rw [ptsUp_length]
  have := Kp.nx_lo xs 0 11 (by omega); have := Kp.nx_hi xs 0 11 (by omega); omega

set_option maxHeartbeats 2000000 in
theorem points_any (A : Option Addr) (c : Nat) (xs : List Int) (w : World) (hr : Rd w w.heap.size 1 A xs.length (ints xs)) (hl : xs.length ≤ maxLen) :
    Calls Tryd.prog 5 #[.slice A xs.length c] w (RetI 3 (pts xs) w) := by
  have HR := Lib.hid hr; have HL := Lib.hid hl; clear hr hl
  have hN0 := Kp.nx_lo xs 0 11 (by omega)
  have hN1 := Kp.nx_hi xs 0 11 (by omega)
  obtain ⟨N, hN⟩ := Int.eq_ofNat_of_zero_le hN0
  have hp : pts xs = ptsUp xs N := by unfold pts; rw [hN]; rfl
  have HP := Lib.hid hp; have HN := Lib.hid hN
  have hN11 : N ≤ 10 := by omega
  clear hN0 hN1 hN hp
  go_enter Tryd.func5, Tryd.ntmps5
  go_wp2_with fail
  refine (from_any _ _ _ _).mono ?_
  rintro e w1 ⟨rfl, hw1⟩
  have hs1 := src_new w A xs.length c
  have hsz1 : w1.heap.size = w.heap.size + 1 := by rw [← hw1]; simp
  have hb1 : Below w.heap.size w w1 := by rw [← hw1]; exact (Below.refl w.heap.size w).alloc (Nat.le_refl _) _
  rw [hw1] at hs1
  generalize hg : w.heap.size = g at *
  have HG := Lib.hid hg; clear hg
  have HS1 := Lib.hid hs1; have HB1 := Lib.hid hb1; clear hs1 hb1 hw1
  go_wp2_with fail
  refine (next_any _ _ _ _ _ 11 (by omega) (by omega) g _ HS1.out (HR.out.below HB1.out) (by omega) HL.out).mono ?_
  rintro e w2 ⟨rfl, hs2, hg2⟩
  have hsz2 := hg2.size
  have HB2 := Lib.hid (HB1.out.grown hg2 (by omega) (fun k hk => by injection hk; omega))
  have HS2 := Lib.hid hs2; clear hs2 hg2
  rw [HN.out]
  go_wp2_with fail
  go_loopw [4, 5] (fun vo i wr => ∃ (k : Nat) (Ao : Option Addr) (co : Nat), k ≤ N ∧ i = .int .i64 ((N - k : Nat) : Int) ∧ vo = .slice Ao k co ∧
      wr.ownsRow (g + 1) 3 1 (.slice Ao k co) k (ints (ptsUp xs k)) ∧ Src wr g A xs.length c (ptpos xs k) ∧ Below g w wr) (fun _ i _ => (intOf i).toNat)
  case atStart => exact ⟨0, none, 0, by omega, rfl, rfl, World.ownsRow_nil _ _ _ _, HS2.out, HB2.out⟩
  case round =>
    obtain ⟨k, Ao, co, hk, rfl, rfl, ho, hs, hb⟩ := hrel
    have HO := Lib.hid ho; have HS := Lib.hid hs; have HB := Lib.hid hb
    have hgs : g < wr.heap.size := hs.lt
    clear ho hs hb
    by_cases hlt : k < N
    · have hpos : (0 : Int) < ((N - k : Nat) : Int) := by omega
      go_wp2_with fail
      refine (point_any g A c xs (ptpos xs k) g _ HS.out (HR.out.below HB.out) (by omega) HL.out).mono ?_
      rintro e w3 ⟨rfl, hs3, hg3⟩
      have hsz3 := hg3.size
      have HS3 := Lib.hid hs3
      have HB3 := Lib.hid (HB.out.grown hg3 (by omega) (fun k hk => by injection hk; omega))
      have HO3 := Lib.hid (HO.out.kept hg3 (by
        cases hob : (Value.slice Ao k co).ownBlock with
        | none => exact .inl rfl
        | some q => have := (HO.out.lt q hob).1; exact .inr (by intro e; injection e; omega)))
      clear hs3 hg3 HO HB HS
      generalize hv : ptv xs (ptpos xs k) = v at *
      have HV := Lib.hid hv; clear hv
      go_wp2_with (at_builtin; refine app_int (by rfl) _ _ rfl (base := g + 1) rfl (HO3.out.alloc _) rfl (rd_one w3 v) (by omega) (by simp; omega) ?_)
      intro A4 c4 w4 ho4 hg4 _
      have hsz4 := hg4.size
      have HB4 := Lib.hid ((HB3.out.alloc (by omega) (.cells #[.int .i64 v] 3)).grown hg4 (by simp; omega) (fun q h => by have := (HO3.out.lt q h).1; omega))
      have HS4 := Lib.hid ((HS3.out.alloc (.cells #[.int .i64 v] 3)).grown hg4 (by
        intro e
        have := (HO3.out.lt g e.symm).1; omega))
      have ho5 : w4.ownsRow (g + 1) 3 1 (.slice A4 (k + 1) c4) (k + 1) (ints (ptsUp xs (k + 1))) := by
        show w4.ownsRow (g + 1) 3 1 (.slice A4 (k + 1) c4) (k + 1) (ints (ptsUp xs k ++ [ptv xs (ptpos xs k)]))
        rw [HV.out]; exact ho4
      have HO5 := Lib.hid ho5
      clear ho4 ho5 hg4 hsz4
      go_wp2
      go_roundw
      case rel => exact ⟨k + 1, A4, c4, by omega, by go_num, rfl, HO5.out, HS4.out, HB4.out⟩
      case measure => simp [intOf]; omega
    · have hkN : k = N := by omega
      have hneg : ¬ (0 : Int) < ((N - k : Nat) : Int) := by omega
      go_wp2
      go_ret
      have hlen : (pts xs).length = N := by rw [HP.out, ptsUp_length]
      unfold RetI
      rw [hlen, HG.out, HP.out]
      subst hkN
      exact ⟨Ao, co, rfl, own_lower' HO.out (by omega), HB.out⟩
end Go.Proofs.YtddlafcnfdohnaaDoor
