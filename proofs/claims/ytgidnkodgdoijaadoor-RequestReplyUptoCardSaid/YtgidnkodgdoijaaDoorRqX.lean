/- The walks of keep.SameRequest and of the chapter's awake. -/
import Derived.Test.YtgidnkodgdoijaaDoorRqA
import Derived.Test.YtgidnkodgdoijaaDoorSmS
namespace Go.Proofs.YtgidnkodgdoijaaDoor
open Go Go.RowKit
set_option linter.unusedVariables false

theorem own_len {w : World} {base : Nat} {e : TypeId} {size n c : Nat} {A : Option Addr} {xs : List Value} (h : w.ownsRow base e size (.slice A n c) n xs) : n ≤ maxLen := by
  rcases h.2 with ⟨_, h0⟩ | ⟨g, cap, cur, hv, hbg, hh, hnc, hcm, hcs, htk⟩
  · omega
  · omega
set_option maxHeartbeats 4000000 in
theorem samereq_ok (op ttl : Int) (A A' : Option Addr) (n c c' : Nat) (xs : List ByteArray) (B : Nat) (w : World) (hx : Rd w B 1 A n (strs xs)) (hy : Rd w B 1 A' n (strs xs)) (hB : B ≤ w.heap.size) (hn : n ≤ maxLen) :
    Calls Tryd.prog 15 #[.agg #[.int .i64 op, .int .i64 ttl, .slice A n c], .agg #[.int .i64 op, .int .i64 ttl, .slice A' n c']] w fun e w' => e = .returned (.bool true) ∧ Below w.heap.size w w' := by
  have HX := Lib.hid hx; have HY := Lib.hid hy
  clear hx hy
  have e1 : (op == op) = true := by simp
  have e2 : (ttl == ttl) = true := by simp
  go_enter Tryd.func15, Tryd.ntmps15
  go_wp2_with fail
  refine (sames_ok A A' n n c c' xs xs B _ ((HX.out.alloc hB _).alloc (by simp; omega) _) ((HY.out.alloc hB _).alloc (by simp; omega) _) hn hn rfl).mono ?_
  rintro e w3 ⟨rfl, q, rfl⟩
  go_wp2
  go_ret
  exact ⟨rfl, below_drewN (((Below.refl _ _).alloc (Nat.le_refl _) _).alloc (by simp) _) q⟩
theorem rd_two_str {w : World} {z : Nat} (hz : w.heap.size = z) (x y : ByteArray) : Rd (w.alloc (.cells #[.string x, .string y] 9)) (z + 1) 1 (some ⟨z, 0, none⟩) 2 (strs [x, y]) := by
  subst hz
  have := Rd.of_own (own_built w 0 9 #[.string x, .string y] 2 rfl (by decide) (Nat.zero_le _))
  simpa [strs] using this
theorem ex1 : Rq.parse (lst ⟨#[72, 79, 76, 68, 32, 49, 48, 32, 98, 37, 67, 51, 37, 66, 67, 99, 104, 101, 114, 32, 34, 34]⟩) = ⟨1, 10, [[98, 195, 188, 99, 104, 101, 114], []], 0⟩ := by kernel_rfl
theorem ex2 : Rq.parse (lst ⟨#[72, 79, 76, 68, 32, 48, 49, 48, 32, 97]⟩) = ⟨0, 0, [], 4⟩ := by kernel_rfl
set_option maxRecDepth 100000 in
set_option maxHeartbeats 4000000 in
theorem awake27_any (w : World) : Calls Tryd.prog 9 #[] w fun e w' => e = .returned (.bool true) ∧ Below w.heap.size w w' := by
  have hp1 := parse_any ⟨#[72, 79, 76, 68, 32, 49, 48, 32, 98, 37, 67, 51, 37, 66, 67, 99, 104, 101, 114, 32, 34, 34]⟩
  have hp2 := parse_any ⟨#[72, 79, 76, 68, 32, 48, 49, 48, 32, 97]⟩
  rw [ex1] at hp1; rw [ex2] at hp2
  have HP1 := Lib.hid hp1; have HP2 := Lib.hid hp2
  clear hp1 hp2
  go_enter Tryd.func9, Tryd.ntmps9
  go_wp2_with fail
  refine (HP1.out _).mono ?_
  rintro e w1 ⟨A1, n1, c1, rfl, hn1, ho1, hb1⟩
  have hn1 : n1 = 2 := hn1.symm
  subst hn1
  have HR1 := Lib.hid (Rd.of_own ho1); have HB1 := Lib.hid hb1; have hsz1 := hb1.size
  clear ho1 hb1
  unfold reqAgg
  go_wp2_with fail
  refine (HP2.out _).mono ?_
  rintro e w2 ⟨A2, n2, c2, rfl, hn2, ho2, hb2⟩
  have hsz2 := hb2.size
  have hg1 : w1.heap.size < w2.heap.size := by simp at hsz2; omega
  have HK := Lib.hid ((Bk.new w1 35 #[.int .i64 1, .int .i64 10, .slice A1 2 c1]).below hb2 (by simp))
  have HR2 := Lib.hid ((HR1.out.alloc (Nat.le_refl _) (.cells #[.int .i64 1, .int .i64 10, .slice A1 2 c1] 35)).below (hb2.mono (by simp)))
  have HB2 := Lib.hid ((HB1.out.alloc hsz1 (.cells #[.int .i64 1, .int .i64 10, .slice A1 2 c1] 35)).trans (hb2.mono (by simp; omega)))
  have k0 : w2.cell? ⟨w1.heap.size, 0, none⟩ = some (.int .i64 1) := HK.out.cell 0
  have k1 : w2.cell? ⟨w1.heap.size, 1, none⟩ = some (.int .i64 10) := HK.out.cell 1
  have k2 : w2.cell? ⟨w1.heap.size, 2, none⟩ = some (.slice A1 2 c1) := HK.out.cell 2
  clear hn2 ho2 hb2 hsz2
  unfold reqAgg
  go_wp2_with fail
  refine (samereq_ok 1 10 A1 (some ⟨w2.heap.size + 1, 0, none⟩) 2 c1 2 [⟨#[98, 195, 188, 99, 104, 101, 114]⟩, ⟨#[]⟩] (w2.heap.size + 2) _ ((((HR2.out.more (by omega)).alloc (Nat.le_refl _) _).alloc (by simp) _).more (by omega))
    (rd_two_str (z := w2.heap.size + 1) (by simp) _ _) (by simp) (by decide)).mono ?_
  rintro e w3 ⟨rfl, hb3⟩
  have HB3 := Lib.hid (((HB2.out.alloc (by omega) (.cells #[.int .i64 0, .int .i64 0, .slice A2 n2 c2] 35)).alloc (by simp; omega) (.cells #[.string ⟨#[98, 195, 188, 99, 104, 101, 114]⟩, .string ⟨#[]⟩] 9)).trans (hb3.mono (by simp; omega)))
  clear hb3
  go_wp2
  go_ret
  exact ⟨rfl, HB3.out⟩
end Go.Proofs.YtgidnkodgdoijaaDoor
