/- The walks of Overlay, ours and the reference's. -/
import Derived.Test.YthdfhijahkfjdaaRSet
namespace Go.Proofs.Ythdfhijahkfjdaa
open Go Go.RowKit
set_option linter.unusedVariables false

/-- The list so far: it can be read; all that was there is as it was. -/
def OverUp (g : Nat) (w : World) (a b : List Rg.Sn) (k : Nat) (v : Value) (wr : World) : Prop :=
  ∃ m A c, v = .slice A m c ∧ (Rg.over a (b.take k)).length = m ∧ Rd wr wr.heap.size 3 A m (spans (Rg.over a (b.take k))) ∧ Below g w wr ∧ g ≤ wr.heap.size
theorem Rg.over_bd {a b : List Rg.Sn} (ha : Rg.valid a = true) (hb : Rg.valid b = true) (k : Nat) : Rg.Asc (-1) (Rg.over a (b.take k)) ∧ (Rg.over a (b.take k)).length ≤ 768 := by
  obtain ⟨h1, h2⟩ := Rg.asc_of_valid ha
  obtain ⟨h3, h4⟩ := Rg.asc_of_valid hb
  have := Rg.over_asc (b.take k) a (-1) h1 (Rg.asc_take h3 k) (by omega)
  refine ⟨this.1, ?_⟩
  have h5 := this.2
  rw [List.length_take] at h5
  omega
theorem Rg.overP_yes {a b : List Rg.Sn} (ha : Rg.valid a = true) (hb : Rg.valid b = true) : Rg.overP a b = Rg.full (Rg.over a b) := by unfold Rg.overP; rw [ha, hb]; rfl
theorem Rg.overP_no {a b : List Rg.Sn} (h : Rg.valid a = false ∨ Rg.valid b = false) : Rg.overP a b = ([], 1) := by
  unfold Rg.overP
  rcases h with h | h
  · rw [h]; rfl
  · rw [h, Bool.and_false]; rfl

set_option maxHeartbeats 4000000 in
theorem over_any (A : Option Addr) (c : Nat) (a : List Rg.Sn) (A' : Option Addr) (c' : Nat) (b : List Rg.Sn) (B : Nat) (w : World) (hr : Rd w B 3 A a.length (spans a)) (hr' : Rd w B 3 A' b.length (spans b)) (hBw : B ≤ w.heap.size)
    (hl : a.length ≤ 1000000000000000) (hl' : b.length ≤ 1000000000000000) :
    Calls Try.prog 17 #[.slice A a.length c, .slice A' b.length c'] w (RetSpE (Rg.overP a b) w) := by
  have HR := Lib.hid hr; clear hr
  have HR' := Lib.hid hr'; clear hr'
  by_cases hva : Rg.valid a = true
  · by_cases hvb : Rg.valid b = true
    · rw [Rg.overP_yes hva hvb]
      have HVA := Lib.hid hva; have HVB := Lib.hid hvb
      have HAB := Lib.hid (Rg.asc_of_valid hvb).1
      obtain ⟨_, hb256⟩ := Rg.asc_of_valid hvb
      clear hva hvb
      go_enter Try.func17, Try.ntmps17
      go_wp2_with fail
      refine (valid_is A c a true HVA.out B _ HR.out (by omega) (by omega)).mono ?_
      rintro e w1 ⟨rfl, hb1⟩
      have hsz1 := hb1.size
      have HB1 := Lib.hid hb1; clear hb1
      go_wp2_with fail
      refine (valid_is A' c' b true HVB.out B _ (HR'.out.below (HB1.out.mono hBw)) (by omega) (by omega)).mono ?_
      rintro e w2 ⟨rfl, hb2⟩
      have hsz2 := hb2.size
      have HB2 := Lib.hid (HB1.out.trans (hb2.mono hsz1)); clear hb2
      have HS0 := Lib.hid (show OverUp w.heap.size w a b 0 (.slice A a.length c) w2 from ⟨a.length, A, c, rfl, rfl, (HR.out.below (HB2.out.mono hBw)).more (by omega), HB2.out, by omega⟩)
      generalize hn : b.length = n at *
      have HN := Lib.hid hn; clear hn
      generalize hg : w.heap.size = g at *
      have HG := Lib.hid hg; clear hg
      go_wp2_with fail
      go_loopw [6, 20] (fun v i wr => ∃ k : Nat, k ≤ n ∧ i = .int .i64 k ∧ OverUp g w a b k v wr) (fun _ i _ => n - (intOf i).toNat)
      case atStart => exact ⟨0, by omega, rfl, HS0.out⟩
      case round =>
        obtain ⟨k, hk, rfl, m, Ao, co, rfl, hom, ho, hb, hgw⟩ := hrel
        have hob := Rg.over_bd HVA.out HVB.out k
        by_cases hlt : k < n
        · obtain ⟨bb, off, s, rfl, hbB, hs, h1, h2, h3⟩ := spans_cell (HR'.out.below (hb.mono hBw)) hlt
          obtain ⟨sb1, sb2, sb3⟩ := Rg.asc_at HAB.out hs
          have hot := Rg.over_take a b k s hs
          have haw := Rg.without_asc hob.1 (show (-1 : Int) < s.f by omega) sb2
          have hlw := Rg.without_len _ (-1) s.f s.t hob.1 sb2
          have hre := Rg.rep_eq (Rg.over a (b.take k)) s (-1) hob.1 sb2
          generalize hL : Rg.over a (b.take k) = L at *
          obtain ⟨_, hL2⟩ := hob
          have HOT := Lib.hid hot; have HAW := Lib.hid haw; have HRE := Lib.hid hre
          have HO1 := Lib.hid (ho.alloc (Nat.le_refl _) (.cells #[.int .i64 s.f, .int .i64 s.t, .int .i64 s.v] 25))
          have HB1' := Lib.hid (hb.alloc hgw (.cells #[.int .i64 s.f, .int .i64 s.t, .int .i64 s.v] 25))
          have hbk := Bk.new wr 25 #[.int .i64 s.f, .int .i64 s.t, .int .i64 s.v]
          have HBK := Lib.hid hbk
          clear hot haw hre ho hb hs hL hbk
          subst hom
          go_wp2_with fail
          generalize hwa : wr.alloc (.cells #[.int .i64 s.f, .int .i64 s.t, .int .i64 s.v] 25) = wa at *
          have hwas : wa.heap.size = wr.heap.size + 1 := by rw [← hwa]; simp
          clear hwa
          have HWS := Lib.hid hwas
          have hwal : wr.heap.size < wa.heap.size := by omega
          clear hwas
          have q0 : wa.cell? ⟨wr.heap.size, 0, none⟩ = some (.int .i64 s.f) := (HBK.out.cell 0).trans rfl
          have q1 : wa.cell? ⟨wr.heap.size, 1, none⟩ = some (.int .i64 s.t) := (HBK.out.cell 1).trans rfl
          have q2 : wa.cell? ⟨wr.heap.size, 2, none⟩ = some (.int .i64 s.v) := (HBK.out.cell 2).trans rfl
          go_region_held3 (fun w' => w'.cell? ⟨wr.heap.size, 0, none⟩ = some (.int .i64 s.f) ∧ w'.cell? ⟨wr.heap.size, 1, none⟩ = some (.int .i64 s.t) ∧ w'.cell? ⟨wr.heap.size, 2, none⟩ = some (.int .i64 s.v))
            (first
              | go_keep
              | exact HS4.out
              | exact HS3.out)
            (first
              | (go_at_call 28; refine (without_any Ao co L s.f s.t wr.heap.size _ HO1.out.drew (by show wr.heap.size ≤ wa.heap.size; omega) (by omega) (by omega) (by omega) (by omega) (by omega)).mono ?_; rintro e w3 ⟨A3, c3, rfl, ho3, hb3⟩; have HS3 := Lib.hid (show w3.cell? ⟨wr.heap.size, 0, none⟩ = some (.int .i64 s.f) ∧ w3.cell? ⟨wr.heap.size, 1, none⟩ = some (.int .i64 s.t) ∧ w3.cell? ⟨wr.heap.size, 2, none⟩ = some (.int .i64 s.v) from ⟨(hb3.cell (p := ⟨wr.heap.size, 0, none⟩) hwal).trans q0, (hb3.cell (p := ⟨wr.heap.size, 1, none⟩) hwal).trans q1, (hb3.cell (p := ⟨wr.heap.size, 2, none⟩) hwal).trans q2⟩))
              | (go_at_call 27; refine (insert_any A3 c3 (Rg.without L s.f s.t) s w3.heap.size _ (Rd.of_own ho3) (Nat.le_refl _) (by omega) (own_cap ho3).1 (own_cap ho3).2 HAW.out).mono ?_; rintro e w4 ⟨A4, c4, rfl, ho4, hb4⟩; have HS4 := Lib.hid (show w4.cell? ⟨wr.heap.size, 0, none⟩ = some (.int .i64 s.f) ∧ w4.cell? ⟨wr.heap.size, 1, none⟩ = some (.int .i64 s.t) ∧ w4.cell? ⟨wr.heap.size, 2, none⟩ = some (.int .i64 s.v) from ⟨(hb4.cell (p := ⟨wr.heap.size, 0, none⟩) (Nat.lt_of_lt_of_le hwal hb3.size)).trans HS3.out.1, (hb4.cell (p := ⟨wr.heap.size, 1, none⟩) (Nat.lt_of_lt_of_le hwal hb3.size)).trans HS3.out.2.1, (hb4.cell (p := ⟨wr.heap.size, 2, none⟩) (Nat.lt_of_lt_of_le hwal hb3.size)).trans HS3.out.2.2⟩)))
          have hbf : Below g w w4 := ((HB1'.out.drew).trans (hb3.mono (by show g ≤ wa.heap.size; omega))).trans (hb4.mono (by have := hb3.size; have e : wa.drew.heap.size = wa.heap.size := rfl; omega))
          have HP := Lib.hid (show OverUp g w a b (k + 1) (.slice A4 (Rg.insert (Rg.without L s.f s.t) s).length c4) w4 from
            ⟨_, A4, c4, rfl, by rw [HOT.out, ← HRE.out], by rw [HOT.out, ← HRE.out]; exact Rd.of_own ho4, hbf, by have := hbf.size; have := HG.out; omega⟩)
          clear hbf ho3 ho4 hb3 hb4
          go_wp2
          go_roundw
          case rel => exact ⟨k + 1, by omega, by go_num, HP.out⟩
          case measure => simp [intOf]; omega
        · have hbt : b.take k = b := List.take_of_length_le (by have := HN.out; omega)
          rw [hbt] at ho hom hob
          obtain ⟨ha, hl768⟩ := hob
          have HA := Lib.hid ha
          have HO := Lib.hid ho; have HB := Lib.hid hb
          subst hom
          clear ha ho hb hbt
          have hsz : w.heap.size ≤ wr.heap.size := by have := HG.out; omega
          go_wp2_with fail
          refine (limited_any Ao co (Rg.over a b) wr.heap.size _ HO.out (Nat.le_refl _) (by omega) HA.out).mono ?_
          rintro e w5 h5
          have hbw : Below w.heap.size w wr := by rw [HG.out]; exact HB.out
          have HP := Lib.hid (RetSpE.up hbw h5)
          obtain ⟨A5, c5, rfl, _, _⟩ := h5
          clear hbw
          go_wp2
          go_ret2
          exact HP.out
    · have hvb' : Rg.valid b = false := by simpa using hvb
      rw [Rg.overP_no (.inr hvb')]
      have HVA := Lib.hid hva; have HVB := Lib.hid hvb'
      clear hva hvb hvb'
      go_enter Try.func17, Try.ntmps17
      go_wp2_with fail
      refine (valid_is A c a true HVA.out B _ HR.out (by omega) (by omega)).mono ?_
      rintro e w1 ⟨rfl, hb1⟩
      have hsz1 := hb1.size
      have HB1 := Lib.hid hb1; clear hb1
      go_wp2_with fail
      refine (valid_is A' c' b false HVB.out B _ (HR'.out.below (HB1.out.mono hBw)) (by omega) (by omega)).mono ?_
      rintro e w2 ⟨rfl, hb2⟩
      have HP := Lib.hid (RetSpE.none_ 1 (HB1.out.trans (hb2.mono hsz1))); clear hb2
      go_wp2
      go_ret2
      exact HP.out
  · have hva' : Rg.valid a = false := by simpa using hva
    rw [Rg.overP_no (.inl hva')]
    have HVA := Lib.hid hva'
    clear hva hva'
    go_enter Try.func17, Try.ntmps17
    go_wp2_with fail
    refine (valid_is A c a false HVA.out B _ HR.out (by omega) (by omega)).mono ?_
    rintro e w1 ⟨rfl, hb1⟩
    have HP := Lib.hid (RetSpE.none_ 1 hb1); clear hb1
    go_wp2
    go_ret2
    exact HP.out
end Go.Proofs.Ythdfhijahkfjdaa
