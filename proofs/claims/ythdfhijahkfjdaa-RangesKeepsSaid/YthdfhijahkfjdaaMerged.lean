/- The walks of the reference's merged and Normal. -/
import Derived.Test.YthdfhijahkfjdaaRefCk
namespace Go.Proofs.Ythdfhijahkfjdaa
open Go Go.RowKit
set_option linter.unusedVariables false

theorem own_low {w : World} {base base' : Nat} {e : TypeId} {size n : Nat} {v : Value} {xs : List Value} (h : w.ownsRow base e size v n xs) (hb : base' ≤ base) : w.ownsRow base' e size v n xs := by
  refine ⟨h.1, ?_⟩
  rcases h.2 with h2 | ⟨g, cap, cur, h1, h2, h3⟩
  · exact .inl h2
  · exact .inr ⟨g, cap, cur, h1, by omega, h3⟩
theorem MrgUp.put' {g : Nat} {w : World} {l : List Rg.Sn} {k m : Nat} {A : Option Addr} {c : Nat} {s : Rg.Sn} {wx w' : World} {o : List Rg.Sn} (ho0 : Rg.mrg (l.take k) = o) (hs : l[k]? = some s) (hm : o.length = m) (hmk : m ≤ k)
    (ho : wx.ownsRow g 25 3 (.slice A m c) m (spans o)) (hb : Below g w wx) (hg : g ≤ wx.heap.size) {o' : List Rg.Sn} (hp : Rg.push o s = o') {m' : Nat} {A' : Option Addr} {c' : Nat}
    (h1 : o'.length = m') (h2 : w'.ownsRow g 25 3 (.slice A' m' c') m' (spans o')) (h3 : wx.grownBy w' (Value.slice A m c).ownBlock) : MrgUp g w l (k + 1) (.slice A' m' c') w' := by
  subst ho0; subst hp
  exact MrgUp.put hs hm hmk ho hb hg h1 h2 h3
theorem Rg.mrg_at {l : List Rg.Sn} {k : Nat} {o : List Rg.Sn} {p : Rg.Sn} (h : Rg.mrg (l.take k) = o ++ [p]) (ha : Rg.Asc (-1) l) : 0 ≤ p.f ∧ p.f ≤ p.t ∧ p.t ≤ 1114111 := by
  have := Rg.mrg_asc (Rg.asc_take ha k)
  rw [h] at this
  have := this.all p (by simp)
  omega

set_option maxHeartbeats 8000000 in
theorem merged_any (A : Option Addr) (c : Nat) (l : List Rg.Sn) (B : Nat) (w : World) (hr : Rd w B 3 A l.length (spans l)) (hBw : B ≤ w.heap.size) (hl : l.length ≤ 1000000000) (ha : Rg.Asc (-1) l) :
    Calls Try.prog 44 #[.slice A l.length c] w (RetSp (Rg.mrg l) w) := by
  have HR := Lib.hid hr; have HA := Lib.hid ha; clear hr ha
  have HS0 := Lib.hid (MrgUp.start w l w (Below.refl _ _))
  generalize hn : l.length = n at *
  have HN := Lib.hid hn; clear hn
  generalize hg : w.heap.size = g at *
  have HG := Lib.hid hg; clear hg
  go_enter Try.func44, Try.ntmps44
  go_wp2
  go_loopw [3, 6, 9] (fun vo _ i wr => ∃ k : Nat, k ≤ n ∧ i = .int .i64 k ∧ MrgUp g w l k vo wr) (fun _ _ i _ => n - (intOf i).toNat)
  case atStart => exact ⟨0, by omega, rfl, HS0.out⟩
  case round =>
    obtain ⟨k, hk, rfl, m, Ao, co, rfl, hom, hmk, ho, hb, hgw⟩ := hrel
    by_cases hlt : k < n
    · obtain ⟨b, off, s, rfl, hbB, hs, h1, h2, h3⟩ := spans_cell (HR.out.below (hb.mono hBw)) hlt
      obtain ⟨sb1, sb2, sb3⟩ := Rg.asc_at HA.out hs
      have HS := Lib.hid hs; clear hs
      have ho1 := ho.alloc (.cells #[.int .i64 s.f, .int .i64 s.t, .int .i64 s.v] 25)
      have HB1 := Lib.hid (hb.alloc hgw (.cells #[.int .i64 s.f, .int .i64 s.t, .int .i64 s.v] 25))
      clear ho hb
      generalize hoq : Rg.mrg (l.take k) = o at *
      have HOQ := Lib.hid hoq; clear hoq
      rcases List.eq_nil_or_concat o with rfl | ⟨l', p, rfl⟩
      · have hm0 : m = 0 := by simpa using hom.symm
        subst hm0
        have HO := Lib.hid ho1
        have HOM := Lib.hid hom
        clear ho1 hom
        have hge : decide ((0 : Int) ≤ -1) = false := by simp
        go_wp2_with fail
        go_quiet (fail)
        go_wp2_with (at_builtin; refine app_span (by rfl) _ _ rfl (base := g) rfl ((own_drewN HO.out _).alloc _) rfl (rd_one_span_at (z := wr.heap.size + 1) (by simp) s) (by omega) (by simp <;> omega) ?_)
        intro A1 c1 w1 ho1 hg1 hc1
        have HP := Lib.hid (MrgUp.put' HOQ.out HS.out HOM.out hmk HO.out HB1.out (by simp; omega) (Rg.push_nil s) rfl ho1 (only_trans (only_alloc (only_drewN (only_refl _ _) _) _) hg1))
        clear ho1 hg1 hc1
        go_wp2
        go_roundw
        case rel => exact ⟨k + 1, by omega, by go_num, HP.out⟩
        case measure => simp [intOf]; omega
      · rw [List.concat_eq_append] at *
        obtain ⟨pb1, pb2, pb3⟩ := Rg.mrg_at HOQ.out HA.out
        have hpu := Rg.push_snoc l' p s
        have HPU := Lib.hid hpu
        clear hpu
        generalize hj : l'.length = j at *
        have hmj : m = j + 1 := by rw [← hom, ← hj]; simp
        subst hmj
        rw [← hj] at ho1
        obtain ⟨go, hgo, hgb, hgw2, hnc, c0, c1, c2, fz⟩ := last_cells ho1
        rw [hj] at ho1 hnc c0 c1 c2 fz
        have HJ := Lib.hid hj
        subst hgo
        have HO := Lib.hid ho1
        have HOM := Lib.hid hom
        clear ho1 hom hj
        have hgl : go < wr.heap.size + 1 := by simpa using hgw2
        have hjge : decide ((0 : Int) ≤ (j : Int)) = true := by simp
        have w1 : IntKind.i64.wrap (p.t + 1) = p.t + 1 := IntWalk.i64_in _ (by omega)
        have w2 : (0 : Int) ≤ (j : Int) := by omega
        have hq : (p.t = s.f - 1 ∧ p.v = s.v) ∨ (p.t = s.f - 1 ∧ p.v ≠ s.v) ∨ p.t ≠ s.f - 1 := by omega
        rcases hq with ⟨q1, q2⟩ | ⟨q1, q2⟩ | q1
        · have hps := HPU.out
          rw [if_pos ⟨q2, q1⟩] at hps
          have HPS := Lib.hid hps
          have b1 : (p.t + 1 == s.f) = true := by simp; omega
          have b2 : (p.v == s.v) = true := by simpa using q2
          clear q1 q2 hps HPU
          go_wp2_with fail
          go_quiet (fail)
          clear w1
          go_wp2
          go_roundw
          case rel =>
            have ho2 := own_drewN HO.out nq
            have h2 := last_store HJ.out ho2 s.t
            exact ⟨k + 1, by omega, by go_num, MrgUp.put' HOQ.out HS.out HOM.out hmk HO.out HB1.out (by simp; omega) HPS.out (push_fact (p := p) (s := s) HJ.out).2 h2.1 (only_trans (only_drewN (only_refl _ _) _) h2.2)⟩
          case measure => simp [intOf]; omega
        · have hps := HPU.out
          rw [if_neg (by omega)] at hps
          have HPS := Lib.hid hps
          have b1 : (p.t + 1 == s.f) = true := by simp; omega
          have b2 : (p.v == s.v) = false := by simpa using q2
          clear q1 q2 hps HPU
          go_wp2_with fail
          go_quiet (fail)
          clear w1
          go_wp2_with (at_builtin; refine app_span (by rfl) _ _ rfl (base := g) rfl ((own_drewN HO.out _).alloc _) rfl (rd_one_span_at (z := wr.heap.size + 1) (by simp) s) (by omega) (by simp <;> omega) ?_)
          intro A1 c1' w1 ho1 hg1 hc1
          have HP := Lib.hid (MrgUp.put' HOQ.out HS.out HOM.out hmk HO.out HB1.out (by simp; omega) HPS.out (push_fact (p := p) (s := s) HJ.out).1 (by rw [List.append_assoc]; exact ho1) (only_trans (only_alloc (only_drewN (only_refl _ _) _) _) hg1))
          clear ho1 hg1 hc1
          go_wp2
          go_roundw
          case rel => exact ⟨k + 1, by omega, by go_num, HP.out⟩
          case measure => simp [intOf]; omega
        · have hps := HPU.out
          rw [if_neg (by omega)] at hps
          have HPS := Lib.hid hps
          have b1 : (p.t + 1 == s.f) = false := by simp; omega
          clear q1 hps HPU
          go_wp2_with fail
          go_quiet (fail)
          clear w1
          go_wp2_with (at_builtin; refine app_span (by rfl) _ _ rfl (base := g) rfl ((own_drewN HO.out _).alloc _) rfl (rd_one_span_at (z := wr.heap.size + 1) (by simp) s) (by omega) (by simp <;> omega) ?_)
          intro A1 c1' w1 ho1 hg1 hc1
          have HP := Lib.hid (MrgUp.put' HOQ.out HS.out HOM.out hmk HO.out HB1.out (by simp; omega) HPS.out (push_fact (p := p) (s := s) HJ.out).1 (by rw [List.append_assoc]; exact ho1) (only_trans (only_alloc (only_drewN (only_refl _ _) _) _) hg1))
          clear ho1 hg1 hc1
          go_wp2
          go_roundw
          case rel => exact ⟨k + 1, by omega, by go_num, HP.out⟩
          case measure => simp [intOf]; omega
    · have hd : MrgUp w.heap.size w l k (.slice Ao m co) wr := by rw [HG.out]; exact ⟨m, Ao, co, rfl, hom, hmk, ho, hb, hgw⟩
      have HF := Lib.hid (hd.done (by have := HN.out; omega))
      clear hd ho hb hom
      go_wp2
      go_ret
      exact HF.out

set_option maxHeartbeats 400000 in
theorem rnormal_any (A : Option Addr) (c : Nat) (l : List Rg.Sn) (B : Nat) (w : World) (hr : Rd w B 3 A l.length (spans l)) (hBw : B ≤ w.heap.size) (hl : l.length ≤ 1000000000000000) :
    Calls Try.prog 39 #[.slice A l.length c] w (RetSp (Rg.normP l) w) := by
  have HR := Lib.hid hr; clear hr
  by_cases hv : Rg.valid l = true
  · rw [normP_yes hv]
    obtain ⟨ha, hl2⟩ := Rg.asc_of_valid hv
    have HA := Lib.hid ha; have HV := Lib.hid hv; clear ha hv
    go_enter Try.func39, Try.ntmps39
    go_wp2_with fail
    refine (rvalid_is A c l true HV.out B _ HR.out (by omega) (by omega)).mono ?_
    rintro e w1 ⟨rfl, hb1⟩
    have hsz := hb1.size
    have HB := Lib.hid hb1; clear hb1
    go_wp2_with fail
    refine (merged_any A c l B _ (HR.out.below (HB.out.mono (by omega))) (by omega) (by omega) HA.out).mono ?_
    rintro e w2 ⟨A2, c2, rfl, ho2, hb2⟩
    have HP := Lib.hid (show RetSp (Rg.mrg l) w (.returned (.slice A2 (Rg.mrg l).length c2)) w2 from ⟨A2, c2, rfl, own_low ho2 hsz, HB.out.trans (hb2.mono hsz)⟩)
    clear ho2 hb2
    go_wp2
    go_ret
    exact HP.out
  · rw [normP_no hv]
    have hv' : Rg.valid l = false := by simpa using hv
    have HV := Lib.hid hv'; clear hv hv'
    go_enter Try.func39, Try.ntmps39
    go_wp2_with fail
    refine (rvalid_is A c l false HV.out B _ HR.out (by omega) (by omega)).mono ?_
    rintro e w1 ⟨rfl, hb1⟩
    have HB := Lib.hid (RetSp.nil_ hb1)
    clear hb1
    go_wp2
    go_ret
    exact HB.out
end Go.Proofs.Ythdfhijahkfjdaa
