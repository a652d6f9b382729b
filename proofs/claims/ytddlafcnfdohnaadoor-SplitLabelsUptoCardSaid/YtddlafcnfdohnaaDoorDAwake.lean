/- The example of chapter 12, and the law about the longest names. -/
import Derived.Test.YtddlafcnfdohnaaDoorDLabels
import Derived.Test.YtddlafcnfdohnaaDoorPick
import Derived.Deep.RegionWith
import Derived.Deep.OwnRows
import Derived.Laws.IdiomStrings
namespace Go.Proofs.YtddlafcnfdohnaaDoor
open Go Go.RowKit
set_option linter.unusedVariables false

/-- Three rows, cell by cell. -/
theorem rows3 {w : World} {B : Nat} {A : Option Addr} {r0 r1 r2 : List Int} (h : RdR w B A [r0, r1, r2]) :
    ∃ b off A0 c0 A1 c1 A2 c2, A = some ⟨b, off, none⟩ ∧ b < B ∧ w.cell? ⟨b, off, none⟩ = some (.slice A0 r0.length c0) ∧ w.cell? ⟨b, off + 1, none⟩ = some (.slice A1 r1.length c1) ∧ w.cell? ⟨b, off + 2, none⟩ = some (.slice A2 r2.length c2) ∧
      Rd w B 1 A0 r0.length (ints r0) ∧ Rd w B 1 A2 r2.length (ints r2) := by
  obtain ⟨b, off, ys0, A0, c0, rfl, hb, h0, hc0, hd0⟩ := h.at_ (k := 0) (by simp)
  obtain ⟨b1, off1, ys1, A1, c1, he1, _, h1, hc1, _⟩ := h.at_ (k := 1) (by simp)
  obtain ⟨b2, off2, ys2, A2, c2, he2, _, h2, hc2, hd2⟩ := h.at_ (k := 2) (by simp)
  injection he1 with he1; injection he1 with he1 ho1; subst he1; subst ho1
  injection he2 with he2; injection he2 with he2 ho2; subst he2; subst ho2
  simp at h0 h1 h2
  subst h0; subst h1; subst h2
  exact ⟨_, _, _, _, _, _, _, _, rfl, hb, hc0, hc1, hc2, hd0, hd2⟩

set_option maxHeartbeats 1000000 in
theorem awake12_any (w : World) : Calls Tryd.prog 6 #[] w fun e w' => e = .returned (.bool true) ∧ Below w.heap.size w w' := by
  have l1 : Sp.labels [97, 46, 46, 98] = [[97], [], [98]] := by decide +kernel
  go_enter Tryd.func6, Tryd.ntmps6
  go_wp2_with fail
  refine (labels_any _ _ [97, 46, 46, 98] _ ?_ (by decide)).mono ?_
  · have := Rd.of_own (own_built w 0 3 #[.int .i64 97, .int .i64 46, .int .i64 46, .int .i64 98] 4 rfl (by decide) (Nat.zero_le _))
    simpa [ints] using this
  rw [l1]
  rintro e w1 ⟨A, c, vs, rfl, hown, hrw, hb⟩
  have hrr := rdr_of hown hrw
  have hb1 : Below w.heap.size w w1 := ((Below.refl w.heap.size w).alloc (Nat.le_refl _) _).trans (hb.mono (by simp))
  have HB := Lib.hid hb1
  obtain ⟨b, off, A0, c0, A1, c1, A2, c2, rfl, hbl, hc0, hc1, hc2, hd0, hd2⟩ := rows3 hrr
  clear hown hrw hb hrr hb1 l1
  go_wp2_with fail
  have k1 : Sp.chk [⟨#[97]⟩, ⟨#[]⟩, ⟨#[98]⟩] = (1, 10) := by decide +kernel
  refine (check_any _ _ [⟨#[97]⟩, ⟨#[]⟩, ⟨#[98]⟩] (w1.heap.size + 1) _ ?_ (by decide)).mono ?_
  · have := Rd.of_own (own_built w1 0 9 #[.string ⟨#[97]⟩, .string ⟨#[]⟩, .string ⟨#[98]⟩] 3 rfl (by decide) (Nat.zero_le _))
    simpa [strs] using this
  rw [k1]
  rintro e w2 ⟨rfl, rfl⟩
  clear k1
  generalize hw2 : w1.alloc (.cells #[.string ⟨#[97]⟩, .string ⟨#[]⟩, .string ⟨#[98]⟩] 9) = w2 at *
  have hb2 : Below w.heap.size w w2 := by rw [← hw2]; exact HB.out.alloc HB.out.size _
  have g0 : w2.cell? ⟨b, off, none⟩ = some (.slice A0 [97].length c0) := by rw [← hw2]; exact (World.cell?_alloc_lt w1 _ _ hbl).trans hc0
  have g1 : w2.cell? ⟨b, off + 1, none⟩ = some (.slice A1 ([] : List Int).length c1) := by rw [← hw2]; exact (World.cell?_alloc_lt w1 _ _ hbl).trans hc1
  have g2 : w2.cell? ⟨b, off + 2, none⟩ = some (.slice A2 [98].length c2) := by rw [← hw2]; exact (World.cell?_alloc_lt w1 _ _ hbl).trans hc2
  have d0 : Rd w2 w2.heap.size 1 A0 [97].length (ints [97]) := by rw [← hw2]; exact (hd0.alloc (Nat.le_refl _) _).more (by simp)
  have d2 : Rd w2 w2.heap.size 1 A2 [98].length (ints [98]) := by rw [← hw2]; exact (hd2.alloc (Nat.le_refl _) _).more (by simp)
  have hbl2 : b < w2.heap.size := by rw [← hw2]; simp; omega
  have HB2 := Lib.hid hb2; have D0 := Lib.hid d0; have D2 := Lib.hid d2
  clear hb2 d0 d2 hd0 hd2 hc0 hc1 hc2 HB hbl hw2
  simp only [List.length_cons, List.length_nil] at g0 g1 g2
  go_wp2_with fail
  have e2 : Rd (w2.alloc (.cells #[.int .i64 97] 3)) (w2.heap.size + 1) 1 (some ⟨w2.heap.size, 0, none⟩) 1 (ints [97]) := by
    have := Rd.of_own (own_built w2 0 3 #[.int .i64 97] 1 rfl (by decide) (Nat.zero_le _))
    simpa [ints] using this
  refine (same_ok _ _ 1 1 _ _ [97] [97] _ _ ((D0.out.alloc (Nat.le_refl _) _).more (by omega)) e2 (by decide) (by decide) rfl).mono ?_
  rintro e w3 ⟨rfl, m, rfl⟩
  clear e2
  generalize hw3 : (w2.alloc (.cells #[.int .i64 97] 3)).drewN m = w3 at *
  have hb3 : Below w.heap.size w w3 := by rw [← hw3]; exact below_drewN (HB2.out.alloc HB2.out.size _) _
  have q1 : w3.cell? ⟨b, off + 1, none⟩ = some (.slice A1 0 c1) := by rw [← hw3]; exact (World.cell?_alloc_lt w2 _ _ hbl2).trans g1
  have q2 : w3.cell? ⟨b, off + 2, none⟩ = some (.slice A2 1 c2) := by rw [← hw3]; exact (World.cell?_alloc_lt w2 _ _ hbl2).trans g2
  have d3 : Rd w3 w3.heap.size 1 A2 [98].length (ints [98]) := by rw [← hw3]; exact (D2.out.alloc (Nat.le_refl _) _).more (by simp)
  have HB3 := Lib.hid hb3; have D3 := Lib.hid d3
  clear hb3 d3 g0 g1 g2 HB2 D0 D2 hw3 hbl2
  simp only [decide_true]
  go_wp2_with fail
  have e3 : Rd (w3.alloc (.cells #[.int .i64 98] 3)) (w3.heap.size + 1) 1 (some ⟨w3.heap.size, 0, none⟩) 1 (ints [98]) := by
    have := Rd.of_own (own_built w3 0 3 #[.int .i64 98] 1 rfl (by decide) (Nat.zero_le _))
    simpa [ints] using this
  refine (same_ok _ _ 1 1 _ _ [98] [98] _ _ ((D3.out.alloc (Nat.le_refl _) _).more (by omega)) e3 (by decide) (by decide) rfl).mono ?_
  rintro e w4 ⟨rfl, m4, rfl⟩
  clear e3
  have hb4 := Lib.hid (below_drewN (HB3.out.alloc HB3.out.size (.cells #[.int .i64 98] 3)) m4)
  go_wp2
  go_ret
  exact ⟨rfl, hb4.out⟩
end Go.Proofs.YtddlafcnfdohnaaDoor
