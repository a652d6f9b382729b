/- The walks of Find, and of the reference's Find. -/
import Derived.Test.YthdfhijahkfjdaaSearch
namespace Go.Proofs.Ythdfhijahkfjdaa
open Go Go.RowKit
set_option linter.unusedVariables false

theorem Rg.findP_no {l : List Rg.Sn} (h : ¬ Rg.valid l = true) (c : Int) : Rg.findP l c = (0, false) := by unfold Rg.findP; rw [if_neg h]
theorem Rg.findP_yes {l : List Rg.Sn} (h : Rg.valid l = true) (c : Int) : Rg.findP l c = ((Rg.val l c).getD 0, (Rg.val l c).isSome) := by unfold Rg.findP; rw [if_pos h]
theorem box_first (w : World) (u : Value) (t : TypeId) (o : Obj) : ((w.alloc (.cells #[u] t)).alloc o).cell? ⟨w.heap.size, 0, none⟩ = some u := (((Bk.new w t #[u]).alloc o).cell 0).trans rfl
theorem box_second (w : World) (o : Obj) (u : Value) (t : TypeId) : ((w.alloc o).alloc (.cells #[u] t)).cell? ⟨w.heap.size + 1, 0, none⟩ = some u := by
  have := (Bk.new (w.alloc o) t #[u]).cell 0
  rw [World.size_alloc] at this
  exact this
/-- What the place found says. -/
theorem Rg.find_end {l : List Rg.Sn} (h : Rg.valid l = true) (c : Int) (he : Rg.at_ l c = l.length) : Rg.findP l c = (0, false) := by
  rw [Rg.findP_yes h, Rg.val_at (Rg.asc_of_valid h).1 c, he, List.getElem?_eq_none (Nat.le_refl _)]; rfl
theorem Rg.find_at {l : List Rg.Sn} (h : Rg.valid l = true) (c : Int) {s : Rg.Sn} (he : l[Rg.at_ l c]? = some s) : Rg.findP l c = if c < s.f then (0, false) else (s.v, true) := by
  rw [Rg.findP_yes h, Rg.val_at (Rg.asc_of_valid h).1 c, he]
  simp only
  split <;> rfl

set_option maxHeartbeats 2000000 in
theorem find_any (A : Option Addr) (c : Nat) (l : List Rg.Sn) (x : Int) (B : Nat) (w : World) (hr : Rd w B 3 A l.length (spans l)) (hBw : B ≤ w.heap.size) (hl : l.length ≤ 1000000000000000) :
    Calls Try.prog 16 #[.slice A l.length c, .int .i64 x] w fun e w' => e = .returned (.tuple #[.int .i64 (Rg.findP l x).1, .bool (Rg.findP l x).2]) ∧ Below w.heap.size w w' := by
  have HR := Lib.hid hr; clear hr
  have hb0 : Below w.heap.size w ((w.alloc (.cells #[.slice A l.length c] 23)).alloc (.cells #[.int .i64 x] 3)) := ((Below.refl _ _).alloc (Nat.le_refl _) _).alloc (by simp) _
  have HB0 := Lib.hid hb0; clear hb0
  by_cases hv : Rg.valid l = true
  · have HV := Lib.hid hv
    obtain ⟨ha, hl2⟩ := Rg.asc_of_valid hv
    have HA := Lib.hid ha; clear ha hv
    go_enter Try.func16, Try.ntmps16
    go_wp2_with fail
    refine (valid_is A c l true HV.out B _ (HR.out.below (HB0.out.mono hBw)) (by simp; omega) (by omega)).mono ?_
    rintro e w1 ⟨rfl, hb1⟩
    have hsz1 := hb1.size
    simp at hsz1
    have c0 : w1.cell? ⟨w.heap.size, 0, none⟩ = some (.slice A l.length c) := (hb1.cell (p := ⟨w.heap.size, 0, none⟩) (by simp <;> omega)).trans (box_first _ _ _ _)
    have c1 : w1.cell? ⟨w.heap.size + 1, 0, none⟩ = some (.int .i64 x) := (hb1.cell (p := ⟨w.heap.size + 1, 0, none⟩) (by simp <;> omega)).trans (box_second _ _ _ _)
    have HB1 := Lib.hid (HB0.out.trans (hb1.mono (by simp <;> omega)))
    clear hb1
    go_wp2_with fail
    have hse := search_any 34 #[.pointer (some ⟨w.heap.size, 0, none⟩), .pointer (some ⟨w.heap.size + 1, 0, none⟩)] l.length (fun i => decide (x ≤ (l.getD i Rg.d0).t)) w1
      (enters_of Try.func34 (by kernel_rfl) rfl) (by omega)
      (fun W i hi hb => by
        obtain ⟨b, off, s, rfl, hbB, hs, h1, h2, h3⟩ := spans_cell (HR.out.below (HB1.out.mono hBw)) hi
        show Calls Try.prog _ _ W _
        rw [Rg.getD_of hs]
        exact find_clo w.heap.size (w.heap.size + 1) b off l.length c x s.t i W hi (by omega) ((hb.cell (p := ⟨w.heap.size, 0, none⟩) (by show w.heap.size < w1.heap.size; omega)).trans c0) ((hb.cell (p := ⟨w.heap.size + 1, 0, none⟩) (by show w.heap.size + 1 < w1.heap.size; omega)).trans c1)
          ((hb.cell (p := ⟨b, off + i * 3 + 1, none⟩) (by show b < w1.heap.size; omega)).trans h2))
      (fun a b hab hb hp => Rg.mono_t HA.out x a b hab hb hp)
    rw [Rg.range_countP l Rg.d0 (fun s => !decide (x ≤ s.t))] at hse
    refine hse.mono ?_
    clear hse
    rintro e w2 ⟨rfl, hb2⟩
    have hsz2 := hb2.size
    have d0 := (hb2.cell (p := ⟨w.heap.size, 0, none⟩) (by show w.heap.size < w1.heap.size; omega)).trans c0
    have d1 := (hb2.cell (p := ⟨w.heap.size + 1, 0, none⟩) (by show w.heap.size + 1 < w1.heap.size; omega)).trans c1
    have HB2 := Lib.hid (HB1.out.trans (hb2.mono (by omega)))
    clear c0 c1 hb2
    have hat : l.countP (fun s => !decide (x ≤ s.t)) = Rg.at_ l x := rfl
    rw [hat]
    clear hat
    have hle := Rg.at_le l x
    have hfe := Rg.find_end HV.out x
    have HFE := Lib.hid hfe
    have hfa := fun s he => Rg.find_at (s := s) HV.out x he
    have HFA := Lib.hid hfa
    clear hfe hfa
    generalize hi : Rg.at_ l x = i at *
    clear hi
    generalize hn : l.length = n at *
    by_cases hin : i = n
    · have hff := HFE.out hin
      have HFF := Lib.hid hff
      clear hff HFE HFA hle
      subst hin
      have be : ((i : Int) == (i : Int)) = true := by simp
      go_wp2_with fail
      go_quiet (fail)
      go_wp2
      go_ret2
      rw [HFF.out]
      exact ⟨rfl, below_drewN HB2.out _⟩
    · have hlt : i < n := by omega
      obtain ⟨b, off, s, rfl, hbB, hs, h1, h2, h3⟩ := spans_cell (HR.out.below (HB2.out.mono hBw)) hlt
      have hff := HFA.out s hs
      have be : ((i : Int) == (n : Int)) = false := by rw [beq_eq_false_iff_ne]; omega
      have hi0 : (0 : Int) ≤ (i : Int) := by omega
      have hi1 : (i : Int) < (n : Int) := by omega
      by_cases hc : x < s.f
      · rw [if_pos hc] at hff
        have HFF := Lib.hid hff
        have bd : decide (x < s.f) = true := by simpa using hc
        clear hff HFE HFA hs hin
        go_wp2_with fail
        go_quiet (fail)
        go_wp2
        go_ret2
        rw [HFF.out]
        exact ⟨rfl, below_drewN HB2.out _⟩
      · rw [if_neg hc] at hff
        have HFF := Lib.hid hff
        have bd : decide (x < s.f) = false := by simpa using hc
        clear hff HFE HFA hs hin
        go_wp2_with fail
        go_quiet (fail)
        go_wp2
        go_ret2
        rw [HFF.out]
        exact ⟨rfl, below_drewN HB2.out _⟩
  · rw [Rg.findP_no hv]
    have hv' : Rg.valid l = false := by simpa using hv
    have HV := Lib.hid hv'; clear hv hv'
    go_enter Try.func16, Try.ntmps16
    go_wp2_with fail
    refine (valid_is A c l false HV.out B _ (HR.out.below (HB0.out.mono hBw)) (by simp; omega) (by omega)).mono ?_
    rintro e w1 ⟨rfl, hb1⟩
    have HB := Lib.hid (HB0.out.trans (hb1.mono (by simp <;> omega)))
    clear hb1
    go_wp2
    go_ret2
    exact ⟨rfl, HB.out⟩
end Go.Proofs.Ythdfhijahkfjdaa
