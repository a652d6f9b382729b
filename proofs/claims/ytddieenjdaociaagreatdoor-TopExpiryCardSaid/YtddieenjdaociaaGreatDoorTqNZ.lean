/- A machine: parse. -/
import Derived.Test.YtddieenjdaociaaGreatDoorM16
import Derived.Deep.RegionHeld3
namespace Go.Proofs.YtddieenjdaociaaGreatDoor
open Go Go.RowKit Go.Shelf
set_option linter.unusedVariables false

@[reducible] def S13 (w : World) (g b : Nat) (v : Value) : Prop := w.cell? ⟨g, 0, none⟩ = some (.slice none 0 0) ∧ w.cell? ⟨g, 1, none⟩ = some (.slice none 0 0) ∧ w.cell? ⟨g, 2, none⟩ = some (.slice none 0 0) ∧ w.cell? ⟨g, 3, none⟩ = some (.slice none 0 0) ∧ w.cell? ⟨g, 4, none⟩ = some (.slice none 0 0) ∧ w.cell? ⟨g, 5, none⟩ = some (.slice none 0 0) ∧ w.cell? ⟨g, 6, none⟩ = some (.slice none 0 0) ∧ w.cell? ⟨g, 7, none⟩ = some (.slice none 0 0) ∧ w.cell? ⟨g, 8, none⟩ = some (.slice none 0 0) ∧ w.cell? ⟨g, 9, none⟩ = some (.slice none 0 0) ∧ w.cell? ⟨g, 10, none⟩ = some (.slice none 0 0) ∧ w.cell? ⟨g, 11, none⟩ = some (.slice none 0 0) ∧ w.cell? ⟨b, 2, none⟩ = some v
theorem S13.same {w w' : World} {g b : Nat} {v : Value} (h : S13 w g b v) (hg : ∀ i : Nat, w'.cell? ⟨g, i, none⟩ = w.cell? ⟨g, i, none⟩) (hb : ∀ i : Nat, w'.cell? ⟨b, i, none⟩ = w.cell? ⟨b, i, none⟩) : S13 w' g b v := by
  obtain ⟨h0, h1, h2, h3, h4, h5, h6, h7, h8, h9, h10, h11, h12⟩ := h
  exact ⟨(hg 0).trans h0, (hg 1).trans h1, (hg 2).trans h2, (hg 3).trans h3, (hg 4).trans h4, (hg 5).trans h5, (hg 6).trans h6, (hg 7).trans h7, (hg 8).trans h8, (hg 9).trans h9, (hg 10).trans h10, (hg 11).trans h11, (hb 2).trans h12⟩
theorem S13.alloc {w : World} {g b : Nat} {v : Value} (h : S13 w g b v) (hg : g < w.heap.size) (hb : b < w.heap.size) (o : Obj) : S13 (w.alloc o) g b v :=
  h.same (fun i => World.cell?_alloc_lt w o ⟨g, i, none⟩ hg) (fun i => World.cell?_alloc_lt w o ⟨b, i, none⟩ hb)
theorem S13.far {w : World} {g b : Nat} {v : Value} (h : S13 w g b v) {p : Addr} (hg : g ≠ p.block) (hb : b ≠ p.block) (u : Value) : S13 (w.setCell p u) g b v :=
  h.same (fun i => World.cell?_setCell_other w p ⟨g, i, none⟩ u (fun e => hg (congrArg Addr.block e).symm)) (fun i => World.cell?_setCell_other w p ⟨b, i, none⟩ u (fun e => hb (congrArg Addr.block e).symm))
theorem S13.far8 {w : World} {g b z : Nat} {v : Value} (h : S13 w g b v) (hg : g ≠ z) (hb : b ≠ z) (v0 v1 v2 v3 v4 v5 v6 v7 : Value) : S13 ((((((((w.setCell ⟨z, 0, none⟩ v0).setCell ⟨z, 1, none⟩ v1).setCell ⟨z, 2, none⟩ v2).setCell ⟨z, 3, none⟩ v3).setCell ⟨z, 4, none⟩ v4).setCell ⟨z, 5, none⟩ v5).setCell ⟨z, 6, none⟩ v6).setCell ⟨z, 7, none⟩ v7) g b v :=
  (((((((h.far (p := ⟨z, 0, none⟩) hg hb v0).far (p := ⟨z, 1, none⟩) hg hb v1).far (p := ⟨z, 2, none⟩) hg hb v2).far (p := ⟨z, 3, none⟩) hg hb v3).far (p := ⟨z, 4, none⟩) hg hb v4).far (p := ⟨z, 5, none⟩) hg hb v5).far (p := ⟨z, 6, none⟩) hg hb v6).far (p := ⟨z, 7, none⟩) hg hb v7
theorem own_oth {w w' : World} {base : Nat} {e : TypeId} {size n : Nat} {v : Value} {xs : List Value} {S : List Nat} (h : w.ownsRow base e size v n xs) (ho : Oth S w w') (hS : ∀ i ∈ S, i < base) : w'.ownsRow base e size v n xs := by
  refine ⟨h.1, ?_⟩
  rcases h.2 with h2 | ⟨g, cap, cur, h1, h2, h3, h4⟩
  · exact .inl h2
  · exact .inr ⟨g, cap, cur, h1, h2, ho.heap h3 (fun hm => by have := hS g hm; omega), h4⟩
theorem Bk.far8 {w : World} {g z : Nat} {T : TypeId} {cs : Array Value} (h : Bk w g T cs) (hg : g ≠ z) (v0 v1 v2 v3 v4 v5 v6 v7 : Value) : Bk ((((((((w.setCell ⟨z, 0, none⟩ v0).setCell ⟨z, 1, none⟩ v1).setCell ⟨z, 2, none⟩ v2).setCell ⟨z, 3, none⟩ v3).setCell ⟨z, 4, none⟩ v4).setCell ⟨z, 5, none⟩ v5).setCell ⟨z, 6, none⟩ v6).setCell ⟨z, 7, none⟩ v7) g T cs :=
  (((((((h.far (p := ⟨z, 0, none⟩) hg v0).far (p := ⟨z, 1, none⟩) hg v1).far (p := ⟨z, 2, none⟩) hg v2).far (p := ⟨z, 3, none⟩) hg v3).far (p := ⟨z, 4, none⟩) hg v4).far (p := ⟨z, 5, none⟩) hg v5).far (p := ⟨z, 6, none⟩) hg v6).far (p := ⟨z, 7, none⟩) hg v7
theorem Oth.sets8 {S : List Nat} {W w : World} {z : Nat} (h : Oth S W w) (hz : W.heap.size ≤ z) (v0 v1 v2 v3 v4 v5 v6 v7 : Value) : Oth S W ((((((((w.setCell ⟨z, 0, none⟩ v0).setCell ⟨z, 1, none⟩ v1).setCell ⟨z, 2, none⟩ v2).setCell ⟨z, 3, none⟩ v3).setCell ⟨z, 4, none⟩ v4).setCell ⟨z, 5, none⟩ v5).setCell ⟨z, 6, none⟩ v6).setCell ⟨z, 7, none⟩ v7) :=
  (((((((h.setCell (p := ⟨z, 0, none⟩) (.inr hz) v0).setCell (p := ⟨z, 1, none⟩) (.inr hz) v1).setCell (p := ⟨z, 2, none⟩) (.inr hz) v2).setCell (p := ⟨z, 3, none⟩) (.inr hz) v3).setCell (p := ⟨z, 4, none⟩) (.inr hz) v4).setCell (p := ⟨z, 5, none⟩) (.inr hz) v5).setCell (p := ⟨z, 6, none⟩) (.inr hz) v6).setCell (p := ⟨z, 7, none⟩) (.inr hz) v7
section
variable {g : Nat} {cl ph : Int} {tx : ByteArray} {op ttl : Int} {nv : Value} {at_ : Int} {rv : Value} {p : Rs} {w : World}
set_option maxRecDepth 100000 in
set_option maxHeartbeats 4000000 in
theorem mparse_ok {o t : Int} {nm : List UInt8} (h : MAt w g cl ph tx op ttl nv at_ rv p) (hq : Rq.parse (lst tx) = ⟨o, t, [nm], 0⟩) (h0 : 0 < (str nm).size) (hn : (str nm).size ≤ 63) (ha : Alp (nums (lst (str nm)))) :
    Calls Tryz.prog 50 #[.pointer (some ⟨g, 0, none⟩)] w fun e w' => ∃ q c, e = .returned (.int .i64 1) ∧ MAt w' g cl 2 tx o t (.slice (some ⟨q, 0, none⟩) 1 c) 0 rv p ∧
      w'.ownsRow w.heap.size 127 3 (.slice (some ⟨q, 0, none⟩) 1 c) 1 (nmsC [nmOf (str nm)]) ∧ Oth [g] w w' := by
  have c1 := h.ctx
  have HP := Lib.hid (parse_any tx w)
  have HM0 := Lib.hid h
  rw [hq] at HP
  clear h
  go_enter Tryz.func50, Tryz.ntmps50
  go_wp2_with fail
  clear c1
  refine HP.out.mono ?_
  rintro e w1 ⟨A, n, c, rfl, hl, ho, hb⟩
  simp at hl
  subst hl
  have HM1 := Lib.hid (HM0.out.below hb HM0.out.lt)
  have HO := Lib.hid (Rd.of_own (by simpa using ho))
  have HB := Lib.hid (Oth.below (S := [g]) hb (Nat.le_refl _))
  have HB1 := Lib.hid hb
  clear hb ho HP
  have hx := Lib.hid (Bk.new w1 70 #[.int .i64 o, .int .i64 t, .slice A 1 c])
  have HA := Lib.hid ((Below.refl w1.heap.size w1).alloc (Nat.le_refl _) (.cells #[.int .i64 o, .int .i64 t, .slice A 1 c] 70))
  simp only [reqAgg]
  go_upto_region 6 with (fail)
  generalize hw2 : w1.alloc (.cells #[.int .i64 o, .int .i64 t, .slice A 1 c] 70) = w2 at *
  have HM2 := Lib.hid (HM1.out.below HA.out HM1.out.lt)
  have HO2 := Lib.hid ((HO.out.below HA.out).more HA.out.size)
  have HB2 := Lib.hid (HB.out.trans (Oth.below (S := [g]) HA.out (Nat.le_refl _)))
  have HS2 := Lib.hid (show w2.cell? ⟨g, 0, none⟩ = some (.slice none 0 0) ∧ w2.cell? ⟨g, 1, none⟩ = some (.slice none 0 0) ∧ w2.cell? ⟨g, 2, none⟩ = some (.slice none 0 0) ∧ w2.cell? ⟨g, 3, none⟩ = some (.slice none 0 0) ∧ w2.cell? ⟨g, 4, none⟩ = some (.slice none 0 0) ∧ w2.cell? ⟨g, 5, none⟩ = some (.slice none 0 0) ∧ w2.cell? ⟨g, 6, none⟩ = some (.slice none 0 0) ∧ w2.cell? ⟨g, 7, none⟩ = some (.slice none 0 0) ∧ w2.cell? ⟨g, 8, none⟩ = some (.slice none 0 0) ∧ w2.cell? ⟨g, 9, none⟩ = some (.slice none 0 0) ∧ w2.cell? ⟨g, 10, none⟩ = some (.slice none 0 0) ∧ w2.cell? ⟨g, 11, none⟩ = some (.slice none 0 0) ∧ w2.cell? ⟨w1.heap.size, 2, none⟩ = some (.slice A 1 c) from ⟨HM2.out.t.1, HM2.out.t.2.1, HM2.out.t.2.2.1, HM2.out.t.2.2.2.1, HM2.out.t.2.2.2.2.1, HM2.out.t.2.2.2.2.2.1, HM2.out.t.2.2.2.2.2.2.1, HM2.out.t.2.2.2.2.2.2.2.1, HM2.out.t.2.2.2.2.2.2.2.2.1, HM2.out.t.2.2.2.2.2.2.2.2.2.1, HM2.out.t.2.2.2.2.2.2.2.2.2.2.1, HM2.out.t.2.2.2.2.2.2.2.2.2.2.2, hx.out.cell 2⟩)
  obtain ⟨x0, x1, x2, x3, x4, x5, x6, x7, x8, x9, x10, x11, x12⟩ := HS2.out
  have hxl := hx.out.lt
  have hgl := HM2.out.lt
  clear HM1 HO HB
  go_region_held3 (fun w' => w'.cell? ⟨g, 0, none⟩ = some (.slice none 0 0) ∧ w'.cell? ⟨g, 1, none⟩ = some (.slice none 0 0) ∧ w'.cell? ⟨g, 2, none⟩ = some (.slice none 0 0) ∧ w'.cell? ⟨g, 3, none⟩ = some (.slice none 0 0) ∧ w'.cell? ⟨g, 4, none⟩ = some (.slice none 0 0) ∧ w'.cell? ⟨g, 5, none⟩ = some (.slice none 0 0) ∧ w'.cell? ⟨g, 6, none⟩ = some (.slice none 0 0) ∧ w'.cell? ⟨g, 7, none⟩ = some (.slice none 0 0) ∧ w'.cell? ⟨g, 8, none⟩ = some (.slice none 0 0) ∧ w'.cell? ⟨g, 9, none⟩ = some (.slice none 0 0) ∧ w'.cell? ⟨g, 10, none⟩ = some (.slice none 0 0) ∧ w'.cell? ⟨g, 11, none⟩ = some (.slice none 0 0) ∧ w'.cell? ⟨w1.heap.size, 2, none⟩ = some (.slice A 1 c))
    (first
      | with_reducible exact HS3.out
      | with_reducible exact S13.alloc HS3.out (Nat.lt_of_lt_of_le hgl hz3) (Nat.lt_of_lt_of_le hxl hz3) _
      | with_reducible exact S13.far8 HS3.out (Nat.ne_of_lt hgl) (Nat.ne_of_lt hxl) _ _ _ _ _ _ _ _
      | go_keep
      | fail)
    (first
      | (go_at_call 84; refine (make_alp A c (str nm) w2.heap.size _ (HO2.out.drew) (by simp) h0 hn ha).mono ?_; rintro e w3 ⟨q, c3, A2, c2, rfl, ho3, hb3⟩; simp only [show Rs.fine.arr = #[.int .i64 0, .int .i64 (-1), .string ⟨#[]⟩, .int .i64 0, .int .i64 0, .string ⟨#[]⟩, .int .i64 0, .int .i64 0] from rfl]; have hz3 : w2.heap.size ≤ w3.heap.size := Nat.le_trans (by simp) hb3.size; have HS3 := Lib.hid (show w3.cell? ⟨g, 0, none⟩ = some (.slice none 0 0) ∧ w3.cell? ⟨g, 1, none⟩ = some (.slice none 0 0) ∧ w3.cell? ⟨g, 2, none⟩ = some (.slice none 0 0) ∧ w3.cell? ⟨g, 3, none⟩ = some (.slice none 0 0) ∧ w3.cell? ⟨g, 4, none⟩ = some (.slice none 0 0) ∧ w3.cell? ⟨g, 5, none⟩ = some (.slice none 0 0) ∧ w3.cell? ⟨g, 6, none⟩ = some (.slice none 0 0) ∧ w3.cell? ⟨g, 7, none⟩ = some (.slice none 0 0) ∧ w3.cell? ⟨g, 8, none⟩ = some (.slice none 0 0) ∧ w3.cell? ⟨g, 9, none⟩ = some (.slice none 0 0) ∧ w3.cell? ⟨g, 10, none⟩ = some (.slice none 0 0) ∧ w3.cell? ⟨g, 11, none⟩ = some (.slice none 0 0) ∧ w3.cell? ⟨w1.heap.size, 2, none⟩ = some (.slice A 1 c) from ⟨(hb3.cell (p := ⟨g, 0, none⟩) (by first | exact hgl | exact hxl)).trans x0, (hb3.cell (p := ⟨g, 1, none⟩) (by first | exact hgl | exact hxl)).trans x1, (hb3.cell (p := ⟨g, 2, none⟩) (by first | exact hgl | exact hxl)).trans x2, (hb3.cell (p := ⟨g, 3, none⟩) (by first | exact hgl | exact hxl)).trans x3, (hb3.cell (p := ⟨g, 4, none⟩) (by first | exact hgl | exact hxl)).trans x4, (hb3.cell (p := ⟨g, 5, none⟩) (by first | exact hgl | exact hxl)).trans x5, (hb3.cell (p := ⟨g, 6, none⟩) (by first | exact hgl | exact hxl)).trans x6, (hb3.cell (p := ⟨g, 7, none⟩) (by first | exact hgl | exact hxl)).trans x7, (hb3.cell (p := ⟨g, 8, none⟩) (by first | exact hgl | exact hxl)).trans x8, (hb3.cell (p := ⟨g, 9, none⟩) (by first | exact hgl | exact hxl)).trans x9, (hb3.cell (p := ⟨g, 10, none⟩) (by first | exact hgl | exact hxl)).trans x10, (hb3.cell (p := ⟨g, 11, none⟩) (by first | exact hgl | exact hxl)).trans x11, (hb3.cell (p := ⟨w1.heap.size, 2, none⟩) (by first | exact hgl | exact hxl)).trans x12⟩))
      | (go_at_call 84; refine (make_alp A c (str nm) w2.heap.size _ ((HO2.out.alloc (Nat.le_refl _) _).drew) (by simp) h0 hn ha).mono ?_; rintro e w3 ⟨q, c3, A2, c2, rfl, ho3, hb3⟩; simp only [show Rs.fine.arr = #[.int .i64 0, .int .i64 (-1), .string ⟨#[]⟩, .int .i64 0, .int .i64 0, .string ⟨#[]⟩, .int .i64 0, .int .i64 0] from rfl]; have HB4 : Bk w3 w2.heap.size 40 rs0 := Bk.below (show Bk (w2.alloc (.cells rs0 40)).drew _ _ _ from Bk.new w2 _ rs0) hb3 (by simp); have k0 : w3.cell? ⟨w2.heap.size, 0, none⟩ = some (.int .i64 0) := HB4.cell 0; have kf0 : w3.frozen? ⟨w2.heap.size, 0, none⟩ = false := HB4.frozen 0; have k1 : w3.cell? ⟨w2.heap.size, 1, none⟩ = some (.int .i64 0) := HB4.cell 1; have kf1 : w3.frozen? ⟨w2.heap.size, 1, none⟩ = false := HB4.frozen 1; have k2 : w3.cell? ⟨w2.heap.size, 2, none⟩ = some (.string ⟨#[]⟩) := HB4.cell 2; have kf2 : w3.frozen? ⟨w2.heap.size, 2, none⟩ = false := HB4.frozen 2; have k3 : w3.cell? ⟨w2.heap.size, 3, none⟩ = some (.int .i64 0) := HB4.cell 3; have kf3 : w3.frozen? ⟨w2.heap.size, 3, none⟩ = false := HB4.frozen 3; have k4 : w3.cell? ⟨w2.heap.size, 4, none⟩ = some (.int .i64 0) := HB4.cell 4; have kf4 : w3.frozen? ⟨w2.heap.size, 4, none⟩ = false := HB4.frozen 4; have k5 : w3.cell? ⟨w2.heap.size, 5, none⟩ = some (.string ⟨#[]⟩) := HB4.cell 5; have kf5 : w3.frozen? ⟨w2.heap.size, 5, none⟩ = false := HB4.frozen 5; have k6 : w3.cell? ⟨w2.heap.size, 6, none⟩ = some (.int .i64 0) := HB4.cell 6; have kf6 : w3.frozen? ⟨w2.heap.size, 6, none⟩ = false := HB4.frozen 6; have k7 : w3.cell? ⟨w2.heap.size, 7, none⟩ = some (.int .i64 0) := HB4.cell 7; have kf7 : w3.frozen? ⟨w2.heap.size, 7, none⟩ = false := HB4.frozen 7; have hz3 : w2.heap.size ≤ w3.heap.size := Nat.le_trans (by simp) hb3.size; have HS3 := Lib.hid (show w3.cell? ⟨g, 0, none⟩ = some (.slice none 0 0) ∧ w3.cell? ⟨g, 1, none⟩ = some (.slice none 0 0) ∧ w3.cell? ⟨g, 2, none⟩ = some (.slice none 0 0) ∧ w3.cell? ⟨g, 3, none⟩ = some (.slice none 0 0) ∧ w3.cell? ⟨g, 4, none⟩ = some (.slice none 0 0) ∧ w3.cell? ⟨g, 5, none⟩ = some (.slice none 0 0) ∧ w3.cell? ⟨g, 6, none⟩ = some (.slice none 0 0) ∧ w3.cell? ⟨g, 7, none⟩ = some (.slice none 0 0) ∧ w3.cell? ⟨g, 8, none⟩ = some (.slice none 0 0) ∧ w3.cell? ⟨g, 9, none⟩ = some (.slice none 0 0) ∧ w3.cell? ⟨g, 10, none⟩ = some (.slice none 0 0) ∧ w3.cell? ⟨g, 11, none⟩ = some (.slice none 0 0) ∧ w3.cell? ⟨w1.heap.size, 2, none⟩ = some (.slice A 1 c) from ⟨(hb3.cell (p := ⟨g, 0, none⟩) (by first | exact Nat.lt_of_lt_of_le hgl (by simp) | exact Nat.lt_of_lt_of_le hxl (by simp))).trans ((World.cell?_alloc_lt w2 _ _ hgl).trans x0), (hb3.cell (p := ⟨g, 1, none⟩) (by first | exact Nat.lt_of_lt_of_le hgl (by simp) | exact Nat.lt_of_lt_of_le hxl (by simp))).trans ((World.cell?_alloc_lt w2 _ _ hgl).trans x1), (hb3.cell (p := ⟨g, 2, none⟩) (by first | exact Nat.lt_of_lt_of_le hgl (by simp) | exact Nat.lt_of_lt_of_le hxl (by simp))).trans ((World.cell?_alloc_lt w2 _ _ hgl).trans x2), (hb3.cell (p := ⟨g, 3, none⟩) (by first | exact Nat.lt_of_lt_of_le hgl (by simp) | exact Nat.lt_of_lt_of_le hxl (by simp))).trans ((World.cell?_alloc_lt w2 _ _ hgl).trans x3), (hb3.cell (p := ⟨g, 4, none⟩) (by first | exact Nat.lt_of_lt_of_le hgl (by simp) | exact Nat.lt_of_lt_of_le hxl (by simp))).trans ((World.cell?_alloc_lt w2 _ _ hgl).trans x4), (hb3.cell (p := ⟨g, 5, none⟩) (by first | exact Nat.lt_of_lt_of_le hgl (by simp) | exact Nat.lt_of_lt_of_le hxl (by simp))).trans ((World.cell?_alloc_lt w2 _ _ hgl).trans x5), (hb3.cell (p := ⟨g, 6, none⟩) (by first | exact Nat.lt_of_lt_of_le hgl (by simp) | exact Nat.lt_of_lt_of_le hxl (by simp))).trans ((World.cell?_alloc_lt w2 _ _ hgl).trans x6), (hb3.cell (p := ⟨g, 7, none⟩) (by first | exact Nat.lt_of_lt_of_le hgl (by simp) | exact Nat.lt_of_lt_of_le hxl (by simp))).trans ((World.cell?_alloc_lt w2 _ _ hgl).trans x7), (hb3.cell (p := ⟨g, 8, none⟩) (by first | exact Nat.lt_of_lt_of_le hgl (by simp) | exact Nat.lt_of_lt_of_le hxl (by simp))).trans ((World.cell?_alloc_lt w2 _ _ hgl).trans x8), (hb3.cell (p := ⟨g, 9, none⟩) (by first | exact Nat.lt_of_lt_of_le hgl (by simp) | exact Nat.lt_of_lt_of_le hxl (by simp))).trans ((World.cell?_alloc_lt w2 _ _ hgl).trans x9), (hb3.cell (p := ⟨g, 10, none⟩) (by first | exact Nat.lt_of_lt_of_le hgl (by simp) | exact Nat.lt_of_lt_of_le hxl (by simp))).trans ((World.cell?_alloc_lt w2 _ _ hgl).trans x10), (hb3.cell (p := ⟨g, 11, none⟩) (by first | exact Nat.lt_of_lt_of_le hgl (by simp) | exact Nat.lt_of_lt_of_le hxl (by simp))).trans ((World.cell?_alloc_lt w2 _ _ hgl).trans x11), (hb3.cell (p := ⟨w1.heap.size, 2, none⟩) (by first | exact Nat.lt_of_lt_of_le hgl (by simp) | exact Nat.lt_of_lt_of_le hxl (by simp))).trans ((World.cell?_alloc_lt w2 _ _ hxl).trans x12)⟩)))
  · have HG := Lib.hid (show g < w1.heap.size from Nat.lt_of_lt_of_le HM0.out.lt HB1.out.size)
    have hb4 := (Below.refl w3.heap.size w3).alloc (Nat.le_refl _) (.cells #[.int .i64 0, .int .i64 (-1), .string ⟨#[]⟩, .int .i64 0, .int .i64 0, .string ⟨#[]⟩, .int .i64 0, .int .i64 0] 40)
    have T1 := Lib.hid (show MAt (w3.alloc (.cells #[.int .i64 0, .int .i64 (-1), .string ⟨#[]⟩, .int .i64 0, .int .i64 0, .string ⟨#[]⟩, .int .i64 0, .int .i64 0] 40)) g cl ph tx op ttl nv at_ rv p from ((show MAt w2.drew g cl ph tx op ttl nv at_ rv p from HM2.out).below hb3 hgl).below hb4 (Nat.lt_of_lt_of_le hgl hz3))
    have T2 := Lib.hid (show Bk (w3.alloc (.cells #[.int .i64 0, .int .i64 (-1), .string ⟨#[]⟩, .int .i64 0, .int .i64 0, .string ⟨#[]⟩, .int .i64 0, .int .i64 0] 40)) w3.heap.size 40 #[.int .i64 0, .int .i64 (-1), .string ⟨#[]⟩, .int .i64 0, .int .i64 0, .string ⟨#[]⟩, .int .i64 0, .int .i64 0] from Bk.new w3 _ _)
    have T3 := Lib.hid (show Bk (w3.alloc (.cells #[.int .i64 0, .int .i64 (-1), .string ⟨#[]⟩, .int .i64 0, .int .i64 0, .string ⟨#[]⟩, .int .i64 0, .int .i64 0] 40)) w1.heap.size 70 #[.int .i64 o, .int .i64 t, .slice A 1 c] from (Bk.below (show Bk w2.drew _ _ _ from hx.out) hb3 hxl).below hb4 (Nat.lt_of_lt_of_le hxl hz3))
    have T4 := Lib.hid (show (w3.alloc (.cells #[.int .i64 0, .int .i64 (-1), .string ⟨#[]⟩, .int .i64 0, .int .i64 0, .string ⟨#[]⟩, .int .i64 0, .int .i64 0] 40)).ownsRow w.heap.size 127 3 (.slice (some ⟨q, 0, none⟩) 1 c3) 1 (nmsC [nmOf (str nm)]) from own_lower (own_past ho3 hb4) (Nat.le_of_lt (Nat.lt_of_le_of_lt HB1.out.size hxl)))
    have T5 := Lib.hid (show Oth [g] w (w3.alloc (.cells #[.int .i64 0, .int .i64 (-1), .string ⟨#[]⟩, .int .i64 0, .int .i64 0, .string ⟨#[]⟩, .int .i64 0, .int .i64 0] 40)) from ((HB2.out.drew).trans (Oth.below hb3 (Nat.le_refl _))).alloc _)
    clear hb4
    generalize hw4 : w3.alloc (.cells #[.int .i64 0, .int .i64 (-1), .string ⟨#[]⟩, .int .i64 0, .int .i64 0, .string ⟨#[]⟩, .int .i64 0, .int .i64 0] 40) = w4 at *
    clear hw4 HM2 HO2 HB2 HS2 x0 x1 x2 x3 x4 x5 x6 x7 x8 x9 x10 x11 x12 hb3 ho3 HS3 hz3 hx HA hw2
    have hgb : g ≠ w1.heap.size := Nat.ne_of_lt HG.out
    have z0 := T2.out.cell 0
    go_wp2_with fail
    have y0 := T3.out.cell 0
    have y1 := T3.out.cell 1
    have m0 := T1.out.cop; have m1 := T1.out.cttl; have m2 := T1.out.cnv
    have f0 := T1.out.fr 15; have f1 := T1.out.fr 16; have f2 := T1.out.fr 17
    go_region
    have HE := Lib.hid (((T1.out.sop o).sttl t).snv (.slice (some ⟨q, 0, none⟩) 1 c3))
    have HO5 := Lib.hid (((T5.out.setCell (p := ⟨g, 15, none⟩) (.inl (by simp)) (.int .i64 o)).setCell (p := ⟨g, 16, none⟩) (.inl (by simp)) (.int .i64 t)).setCell (p := ⟨g, 17, none⟩) (.inl (by simp)) (.slice (some ⟨q, 0, none⟩) 1 c3))
    have HR5 := Lib.hid (ownsRow_setCell_below (ownsRow_setCell_below (ownsRow_setCell_below T4.out (a := ⟨g, 15, none⟩) HM0.out.lt (.int .i64 o)) (a := ⟨g, 16, none⟩) HM0.out.lt (.int .i64 t)) (a := ⟨g, 17, none⟩) HM0.out.lt (.slice (some ⟨q, 0, none⟩) 1 c3))
    clear m0 m1 m2 f0 f1 f2 y0 y1 z0
    generalize hw5 : ((w4.setCell ⟨g, 15, none⟩ (.int .i64 o)).setCell ⟨g, 16, none⟩ (.int .i64 t)).setCell ⟨g, 17, none⟩ (.slice (some ⟨q, 0, none⟩) 1 c3) = w5 at *
    clear hw5
    go_wp2_with fail
    refine (enter_any 2 (show MAt w5.drew g cl ph tx o t (.slice (some ⟨q, 0, none⟩) 1 c3) at_ rv p from HE.out)).mono ?_
    rintro e w6 ⟨rfl, hm6, ho6⟩
    have HM6 := Lib.hid hm6
    have HO6 := Lib.hid (HO5.out.drew.trans ho6)
    have HR6 := Lib.hid (own_oth (w := w5.drew) HR5.out ho6 (by intro i hi; simp at hi; subst hi; exact HM0.out.lt))
    clear hm6 ho6
    go_wp2_with fail
    go_ret
    exact ⟨q, c3, rfl, HM6.out, HR6.out, HO6.out⟩
  · have HG := Lib.hid (show g < w1.heap.size from Nat.lt_of_lt_of_le HM0.out.lt HB1.out.size)
    have hlt3 : w2.heap.size < w3.heap.size := HB4.lt
    have hal : Below w2.heap.size w2 (w2.alloc (.cells rs0 40)) := (Below.refl _ _).alloc (Nat.le_refl _) _
    have T1 := Lib.hid (show MAt ((((((((w3.setCell ⟨w2.heap.size, 0, none⟩ (.int .i64 0)).setCell ⟨w2.heap.size, 1, none⟩ (.int .i64 (-1))).setCell ⟨w2.heap.size, 2, none⟩ (.string ⟨#[]⟩)).setCell ⟨w2.heap.size, 3, none⟩ (.int .i64 0)).setCell ⟨w2.heap.size, 4, none⟩ (.int .i64 0)).setCell ⟨w2.heap.size, 5, none⟩ (.string ⟨#[]⟩)).setCell ⟨w2.heap.size, 6, none⟩ (.int .i64 0)).setCell ⟨w2.heap.size, 7, none⟩ (.int .i64 0)) g cl ph tx op ttl nv at_ rv p from Bk.far8 ((show MAt (w2.alloc (.cells rs0 40)).drew g cl ph tx op ttl nv at_ rv p from HM2.out.below hal.drew hgl).below hb3 (Nat.lt_of_lt_of_le hgl hal.size)) (Nat.ne_of_lt hgl) (.int .i64 0) (.int .i64 (-1)) (.string ⟨#[]⟩) (.int .i64 0) (.int .i64 0) (.string ⟨#[]⟩) (.int .i64 0) (.int .i64 0))
    have T2 := Lib.hid (show Bk ((((((((w3.setCell ⟨w2.heap.size, 0, none⟩ (.int .i64 0)).setCell ⟨w2.heap.size, 1, none⟩ (.int .i64 (-1))).setCell ⟨w2.heap.size, 2, none⟩ (.string ⟨#[]⟩)).setCell ⟨w2.heap.size, 3, none⟩ (.int .i64 0)).setCell ⟨w2.heap.size, 4, none⟩ (.int .i64 0)).setCell ⟨w2.heap.size, 5, none⟩ (.string ⟨#[]⟩)).setCell ⟨w2.heap.size, 6, none⟩ (.int .i64 0)).setCell ⟨w2.heap.size, 7, none⟩ (.int .i64 0)) w2.heap.size 40 #[.int .i64 0, .int .i64 (-1), .string ⟨#[]⟩, .int .i64 0, .int .i64 0, .string ⟨#[]⟩, .int .i64 0, .int .i64 0] from set8 HB4 (.int .i64 0) (.int .i64 (-1)) (.string ⟨#[]⟩) (.int .i64 0) (.int .i64 0) (.string ⟨#[]⟩) (.int .i64 0) (.int .i64 0))
    have T3 := Lib.hid (show Bk ((((((((w3.setCell ⟨w2.heap.size, 0, none⟩ (.int .i64 0)).setCell ⟨w2.heap.size, 1, none⟩ (.int .i64 (-1))).setCell ⟨w2.heap.size, 2, none⟩ (.string ⟨#[]⟩)).setCell ⟨w2.heap.size, 3, none⟩ (.int .i64 0)).setCell ⟨w2.heap.size, 4, none⟩ (.int .i64 0)).setCell ⟨w2.heap.size, 5, none⟩ (.string ⟨#[]⟩)).setCell ⟨w2.heap.size, 6, none⟩ (.int .i64 0)).setCell ⟨w2.heap.size, 7, none⟩ (.int .i64 0)) w1.heap.size 70 #[.int .i64 o, .int .i64 t, .slice A 1 c] from Bk.far8 (Bk.below (show Bk (w2.alloc (.cells rs0 40)).drew _ _ _ from Bk.below hx.out hal.drew hxl) hb3 (Nat.lt_of_lt_of_le hxl hal.size)) (Nat.ne_of_lt hxl) (.int .i64 0) (.int .i64 (-1)) (.string ⟨#[]⟩) (.int .i64 0) (.int .i64 0) (.string ⟨#[]⟩) (.int .i64 0) (.int .i64 0))
    have T4 := Lib.hid (show (((((((((w3.setCell ⟨w2.heap.size, 0, none⟩ (.int .i64 0)).setCell ⟨w2.heap.size, 1, none⟩ (.int .i64 (-1))).setCell ⟨w2.heap.size, 2, none⟩ (.string ⟨#[]⟩)).setCell ⟨w2.heap.size, 3, none⟩ (.int .i64 0)).setCell ⟨w2.heap.size, 4, none⟩ (.int .i64 0)).setCell ⟨w2.heap.size, 5, none⟩ (.string ⟨#[]⟩)).setCell ⟨w2.heap.size, 6, none⟩ (.int .i64 0)).setCell ⟨w2.heap.size, 7, none⟩ (.int .i64 0))).ownsRow w.heap.size 127 3 (.slice (some ⟨q, 0, none⟩) 1 c3) 1 (nmsC [nmOf (str nm)]) from own_lower (own8 ho3 (show w2.heap.size < (w2.alloc (.cells rs0 40)).heap.size by simp) (.int .i64 0) (.int .i64 (-1)) (.string ⟨#[]⟩) (.int .i64 0) (.int .i64 0) (.string ⟨#[]⟩) (.int .i64 0) (.int .i64 0)) (Nat.le_trans (Nat.le_of_lt (Nat.lt_of_le_of_lt HB1.out.size hxl)) hal.size))
    have T5 := Lib.hid (show Oth [g] w ((((((((w3.setCell ⟨w2.heap.size, 0, none⟩ (.int .i64 0)).setCell ⟨w2.heap.size, 1, none⟩ (.int .i64 (-1))).setCell ⟨w2.heap.size, 2, none⟩ (.string ⟨#[]⟩)).setCell ⟨w2.heap.size, 3, none⟩ (.int .i64 0)).setCell ⟨w2.heap.size, 4, none⟩ (.int .i64 0)).setCell ⟨w2.heap.size, 5, none⟩ (.string ⟨#[]⟩)).setCell ⟨w2.heap.size, 6, none⟩ (.int .i64 0)).setCell ⟨w2.heap.size, 7, none⟩ (.int .i64 0)) from Oth.sets8 ((HB2.out.trans ((Oth.below hal (Nat.le_refl _)).drew)).trans (Oth.below hb3 (Nat.le_refl _))) (Nat.le_of_lt (Nat.lt_of_le_of_lt HB1.out.size hxl)) (.int .i64 0) (.int .i64 (-1)) (.string ⟨#[]⟩) (.int .i64 0) (.int .i64 0) (.string ⟨#[]⟩) (.int .i64 0) (.int .i64 0))
    clear hal
    generalize hw4 : ((((((((w3.setCell ⟨w2.heap.size, 0, none⟩ (.int .i64 0)).setCell ⟨w2.heap.size, 1, none⟩ (.int .i64 (-1))).setCell ⟨w2.heap.size, 2, none⟩ (.string ⟨#[]⟩)).setCell ⟨w2.heap.size, 3, none⟩ (.int .i64 0)).setCell ⟨w2.heap.size, 4, none⟩ (.int .i64 0)).setCell ⟨w2.heap.size, 5, none⟩ (.string ⟨#[]⟩)).setCell ⟨w2.heap.size, 6, none⟩ (.int .i64 0)).setCell ⟨w2.heap.size, 7, none⟩ (.int .i64 0)) = w4 at *
    clear hw4 HM2 HO2 HB2 HS2 x0 x1 x2 x3 x4 x5 x6 x7 x8 x9 x10 x11 x12 hb3 ho3 HS3 hz3 hx HA hw2 HB4 hlt3 k0 kf0 k1 kf1 k2 kf2 k3 kf3 k4 kf4 k5 kf5 k6 kf6 k7 kf7
    have hgb : g ≠ w1.heap.size := Nat.ne_of_lt HG.out
    have z0 := T2.out.cell 0
    go_wp2_with fail
    have y0 := T3.out.cell 0
    have y1 := T3.out.cell 1
    have m0 := T1.out.cop; have m1 := T1.out.cttl; have m2 := T1.out.cnv
    have f0 := T1.out.fr 15; have f1 := T1.out.fr 16; have f2 := T1.out.fr 17
    go_region
    have HE := Lib.hid (((T1.out.sop o).sttl t).snv (.slice (some ⟨q, 0, none⟩) 1 c3))
    have HO5 := Lib.hid (((T5.out.setCell (p := ⟨g, 15, none⟩) (.inl (by simp)) (.int .i64 o)).setCell (p := ⟨g, 16, none⟩) (.inl (by simp)) (.int .i64 t)).setCell (p := ⟨g, 17, none⟩) (.inl (by simp)) (.slice (some ⟨q, 0, none⟩) 1 c3))
    have HR5 := Lib.hid (ownsRow_setCell_below (ownsRow_setCell_below (ownsRow_setCell_below T4.out (a := ⟨g, 15, none⟩) HM0.out.lt (.int .i64 o)) (a := ⟨g, 16, none⟩) HM0.out.lt (.int .i64 t)) (a := ⟨g, 17, none⟩) HM0.out.lt (.slice (some ⟨q, 0, none⟩) 1 c3))
    clear m0 m1 m2 f0 f1 f2 y0 y1 z0
    generalize hw5 : ((w4.setCell ⟨g, 15, none⟩ (.int .i64 o)).setCell ⟨g, 16, none⟩ (.int .i64 t)).setCell ⟨g, 17, none⟩ (.slice (some ⟨q, 0, none⟩) 1 c3) = w5 at *
    clear hw5
    go_wp2_with fail
    refine (enter_any 2 (show MAt w5.drew g cl ph tx o t (.slice (some ⟨q, 0, none⟩) 1 c3) at_ rv p from HE.out)).mono ?_
    rintro e w6 ⟨rfl, hm6, ho6⟩
    have HM6 := Lib.hid hm6
    have HO6 := Lib.hid (HO5.out.drew.trans ho6)
    have HR6 := Lib.hid (own_oth (w := w5.drew) HR5.out ho6 (by intro i hi; simp at hi; subst hi; exact HM0.out.lt))
    clear hm6 ho6
    go_wp2_with fail
    go_ret
    exact ⟨q, c3, rfl, HM6.out, HR6.out, HO6.out⟩
end
end Go.Proofs.YtddieenjdaociaaGreatDoor
