/- A machine: decide, a name that is free gets held. -/
import Derived.Test.YtddieenjdaociaaGreatDoorTqPZ
namespace Go.Proofs.YtddieenjdaociaaGreatDoor
open Go Go.RowKit Go.Shelf
set_option linter.unusedVariables false

theorem grows_gr (r : Rc) (gr : Int) (hst : r.st = 0 ∨ r.st = 1) (hgr : 1 - r.st = gr) (w : World) :
    Calls Tryz.prog 88 #[.agg (rcA r.st r.ow r.nm r.dl), .int .i64 1] w fun e w' => e = .returned (.int .i64 gr) ∧ Below w.heap.size w w' := hgr ▸ grows_hold r.st r.ow r.nm r.dl hst w
set_option maxRecDepth 100000 in
set_option maxHeartbeats 8000000 in
theorem mdecide_hold {g s lk st q : Nat} {n lim now cnt : Int} {cl ph : Int} {tx : ByteArray} {ttl : Int} {cq cr : Nat} {br or_ : Nat} {at_ : Int} {p : Rs} {B : Nat} {x : Nm} {r : Rc} {w : World} {gr : Int} (hAr : br ∉ [g, s]) (hlv : r.live now = false) (t1 : 1 ≤ ttl) (t2 : now + ttl ≤ 1073741824) (hgr : 1 - r.st = gr) (hcap : (gr = 1 ∧ cnt < lim) ∨ gr = 0)
    (h : MAt w g cl ph tx 1 ttl (.slice (some ⟨q, 0, none⟩) 1 cq) at_ (.slice (some ⟨br, or_, none⟩) 1 cr) p) (hs : SAt w s n lim now cnt lk st) (hgs : g ≠ s)
    (hn : Rd w B 3 (some ⟨q, 0, none⟩) 1 (nmsC [x])) (hr : Rd w B 4 (some ⟨br, or_, none⟩) 1 (rcC [r])) (hB : B ≤ w.heap.size) (hst : r.st = 0 ∨ r.st = 1) (h0 : 0 ≤ now) (hcnt : 0 ≤ cnt ∧ cnt ≤ 1000) :
    Calls Tryz.prog 55 #[.pointer (some ⟨g, 0, none⟩), .pointer (some ⟨s, 0, none⟩)] w fun e w' => ∃ A2 c2, e = .returned (.int .i64 3) ∧ MAt w' g cl 5 tx 1 ttl (.slice (some ⟨q, 0, none⟩) 1 cq) 0 (.slice A2 1 c2) ⟨0, -1, ByteArray.empty, Rc.none, now⟩ ∧ SAt w' s n lim now (cnt + gr) lk st ∧ w'.ownsRow w.heap.size 38 4 (.slice A2 1 c2) 1 (rcC [⟨1, cl, x.a, now + ttl⟩]) ∧ Oth [g, s] w w' := by
  have HD := Lib.hid (fun (w' : World) (h1 : Rd w' B 3 (some ⟨q, 0, none⟩) 1 (nmsC [x])) (h2 : Rd w' B 4 (some ⟨br, or_, none⟩) 1 (rcC [r])) (h3 : B ≤ w'.heap.size) => decide_hold n lim cnt cl ttl now gr x r (some ⟨q, 0, none⟩) (some ⟨br, or_, none⟩) cq cr B w' h1 h2 h3 hst h0 hcnt hlv t1 t2 hgr hcap)
  have HM := Lib.hid h; have HS := Lib.hid hs; have HN := Lib.hid hn; have HR := Lib.hid hr
  have x0 := hs.c0; have x1 := hs.c1; have x2 := hs.c2; have x3 := hs.c3
  have x4 := h.ccl; have x5 := h.cop; have x6 := h.cttl; have x7 := h.cnv; have x8 := h.crv
  have hgl := h.lt; have hsl := hs.lt
  obtain ⟨br', or_', har, hbr, r0, r1, r2, r3⟩ := rc_cells hr
  injection har with har; injection har with e1 e2 _
  subst e1; subst e2
  have HBR := Lib.hid (show br < B ∧ br ∉ [g, s] ∧ w.cell? ⟨br, or_, none⟩ = some (.int .i64 r.st) ∧ w.cell? ⟨br, or_ + 1, none⟩ = some (.int .i64 r.ow) ∧ w.cell? ⟨br, or_ + 2, none⟩ = some (.string r.nm) ∧ w.cell? ⟨br, or_ + 3, none⟩ = some (.int .i64 r.dl) from ⟨hbr, hAr, r0, r1, r2, r3⟩)
  clear hbr r0 r1 r2 r3
  have HG := Lib.hid (fun w : World => grows_gr r gr hst hgr w)
  clear h hs hn hr
  go_enter Tryz.func55, Tryz.ntmps55
  go_upto_region 1 with (fail)
  go_region_held3 (fun w' => w'.cell? ⟨s, 0, none⟩ = some (.int .i64 n) ∧ w'.cell? ⟨s, 1, none⟩ = some (.int .i64 lim) ∧ w'.cell? ⟨s, 2, none⟩ = some (.int .i64 now) ∧ w'.cell? ⟨s, 3, none⟩ = some (.int .i64 cnt) ∧ w'.cell? ⟨g, 12, none⟩ = some (.int .i64 cl) ∧ w'.cell? ⟨g, 15, none⟩ = some (.int .i64 1) ∧ w'.cell? ⟨g, 16, none⟩ = some (.int .i64 ttl) ∧ w'.cell? ⟨g, 17, none⟩ = some (.slice (some ⟨q, 0, none⟩) 1 cq) ∧ w'.cell? ⟨g, 19, none⟩ = some (.slice (some ⟨br, or_, none⟩) 1 cr))
    (first
      | with_reducible exact HS3.out
      | with_reducible exact SD.alloc HS3.out (Nat.lt_of_lt_of_le hsl hz3) (Nat.lt_of_lt_of_le hgl hz3) _
      | with_reducible exact SD.far8 HS3.out (Nat.ne_of_lt hsl) (Nat.ne_of_lt hgl) _ _ _ _ _ _ _ _
      | go_keep
      | fail)
    (first
      | (go_at_call 87; refine (HD.out _ HN.out.drew HR.out.drew hB).mono ?_; rintro e w3 ⟨A2, c2, rfl, ho3, hb3⟩; simp only [Rs.arr, Rc.none, show ByteArray.empty = ⟨#[]⟩ from rfl]; have hz3 : w.heap.size ≤ w3.heap.size := Nat.le_trans (by simp) hb3.size; have HS3 := Lib.hid (show w3.cell? ⟨s, 0, none⟩ = some (.int .i64 n) ∧ w3.cell? ⟨s, 1, none⟩ = some (.int .i64 lim) ∧ w3.cell? ⟨s, 2, none⟩ = some (.int .i64 now) ∧ w3.cell? ⟨s, 3, none⟩ = some (.int .i64 cnt) ∧ w3.cell? ⟨g, 12, none⟩ = some (.int .i64 cl) ∧ w3.cell? ⟨g, 15, none⟩ = some (.int .i64 1) ∧ w3.cell? ⟨g, 16, none⟩ = some (.int .i64 ttl) ∧ w3.cell? ⟨g, 17, none⟩ = some (.slice (some ⟨q, 0, none⟩) 1 cq) ∧ w3.cell? ⟨g, 19, none⟩ = some (.slice (some ⟨br, or_, none⟩) 1 cr) from ⟨(hb3.cell (p := ⟨s, 0, none⟩) (Nat.lt_of_lt_of_le hsl (by simp))).trans (let _ := hsl; x0), (hb3.cell (p := ⟨s, 1, none⟩) (Nat.lt_of_lt_of_le hsl (by simp))).trans (let _ := hsl; x1), (hb3.cell (p := ⟨s, 2, none⟩) (Nat.lt_of_lt_of_le hsl (by simp))).trans (let _ := hsl; x2), (hb3.cell (p := ⟨s, 3, none⟩) (Nat.lt_of_lt_of_le hsl (by simp))).trans (let _ := hsl; x3), (hb3.cell (p := ⟨g, 12, none⟩) (Nat.lt_of_lt_of_le hgl (by simp))).trans (let _ := hgl; x4), (hb3.cell (p := ⟨g, 15, none⟩) (Nat.lt_of_lt_of_le hgl (by simp))).trans (let _ := hgl; x5), (hb3.cell (p := ⟨g, 16, none⟩) (Nat.lt_of_lt_of_le hgl (by simp))).trans (let _ := hgl; x6), (hb3.cell (p := ⟨g, 17, none⟩) (Nat.lt_of_lt_of_le hgl (by simp))).trans (let _ := hgl; x7), (hb3.cell (p := ⟨g, 19, none⟩) (Nat.lt_of_lt_of_le hgl (by simp))).trans (let _ := hgl; x8)⟩))
      | (go_at_call 87; refine (HD.out _ ((HN.out.alloc hB _).drew) ((HR.out.alloc hB _).drew) (Nat.le_trans hB (by simp))).mono ?_; rintro e w3 ⟨A2, c2, rfl, ho3, hb3⟩; simp only [Rs.arr, Rc.none, show ByteArray.empty = ⟨#[]⟩ from rfl]; have hz3 : w.heap.size ≤ w3.heap.size := Nat.le_trans (by simp) hb3.size; have HB4 : Bk w3 w.heap.size 40 rs0 := Bk.below (show Bk (w.alloc (.cells rs0 40)).drew _ _ _ from Bk.new w _ rs0) hb3 (by simp); have k0 : w3.cell? ⟨w.heap.size, 0, none⟩ = some (.int .i64 0) := HB4.cell 0; have kf0 : w3.frozen? ⟨w.heap.size, 0, none⟩ = false := HB4.frozen 0; have k1 : w3.cell? ⟨w.heap.size, 1, none⟩ = some (.int .i64 0) := HB4.cell 1; have kf1 : w3.frozen? ⟨w.heap.size, 1, none⟩ = false := HB4.frozen 1; have k2 : w3.cell? ⟨w.heap.size, 2, none⟩ = some (.string ⟨#[]⟩) := HB4.cell 2; have kf2 : w3.frozen? ⟨w.heap.size, 2, none⟩ = false := HB4.frozen 2; have k3 : w3.cell? ⟨w.heap.size, 3, none⟩ = some (.int .i64 0) := HB4.cell 3; have kf3 : w3.frozen? ⟨w.heap.size, 3, none⟩ = false := HB4.frozen 3; have k4 : w3.cell? ⟨w.heap.size, 4, none⟩ = some (.int .i64 0) := HB4.cell 4; have kf4 : w3.frozen? ⟨w.heap.size, 4, none⟩ = false := HB4.frozen 4; have k5 : w3.cell? ⟨w.heap.size, 5, none⟩ = some (.string ⟨#[]⟩) := HB4.cell 5; have kf5 : w3.frozen? ⟨w.heap.size, 5, none⟩ = false := HB4.frozen 5; have k6 : w3.cell? ⟨w.heap.size, 6, none⟩ = some (.int .i64 0) := HB4.cell 6; have kf6 : w3.frozen? ⟨w.heap.size, 6, none⟩ = false := HB4.frozen 6; have k7 : w3.cell? ⟨w.heap.size, 7, none⟩ = some (.int .i64 0) := HB4.cell 7; have kf7 : w3.frozen? ⟨w.heap.size, 7, none⟩ = false := HB4.frozen 7; have HS3 := Lib.hid (show w3.cell? ⟨s, 0, none⟩ = some (.int .i64 n) ∧ w3.cell? ⟨s, 1, none⟩ = some (.int .i64 lim) ∧ w3.cell? ⟨s, 2, none⟩ = some (.int .i64 now) ∧ w3.cell? ⟨s, 3, none⟩ = some (.int .i64 cnt) ∧ w3.cell? ⟨g, 12, none⟩ = some (.int .i64 cl) ∧ w3.cell? ⟨g, 15, none⟩ = some (.int .i64 1) ∧ w3.cell? ⟨g, 16, none⟩ = some (.int .i64 ttl) ∧ w3.cell? ⟨g, 17, none⟩ = some (.slice (some ⟨q, 0, none⟩) 1 cq) ∧ w3.cell? ⟨g, 19, none⟩ = some (.slice (some ⟨br, or_, none⟩) 1 cr) from ⟨(hb3.cell (p := ⟨s, 0, none⟩) (Nat.lt_of_lt_of_le hsl (by simp))).trans ((World.cell?_alloc_lt w _ _ hsl).trans x0), (hb3.cell (p := ⟨s, 1, none⟩) (Nat.lt_of_lt_of_le hsl (by simp))).trans ((World.cell?_alloc_lt w _ _ hsl).trans x1), (hb3.cell (p := ⟨s, 2, none⟩) (Nat.lt_of_lt_of_le hsl (by simp))).trans ((World.cell?_alloc_lt w _ _ hsl).trans x2), (hb3.cell (p := ⟨s, 3, none⟩) (Nat.lt_of_lt_of_le hsl (by simp))).trans ((World.cell?_alloc_lt w _ _ hsl).trans x3), (hb3.cell (p := ⟨g, 12, none⟩) (Nat.lt_of_lt_of_le hgl (by simp))).trans ((World.cell?_alloc_lt w _ _ hgl).trans x4), (hb3.cell (p := ⟨g, 15, none⟩) (Nat.lt_of_lt_of_le hgl (by simp))).trans ((World.cell?_alloc_lt w _ _ hgl).trans x5), (hb3.cell (p := ⟨g, 16, none⟩) (Nat.lt_of_lt_of_le hgl (by simp))).trans ((World.cell?_alloc_lt w _ _ hgl).trans x6), (hb3.cell (p := ⟨g, 17, none⟩) (Nat.lt_of_lt_of_le hgl (by simp))).trans ((World.cell?_alloc_lt w _ _ hgl).trans x7), (hb3.cell (p := ⟨g, 19, none⟩) (Nat.lt_of_lt_of_le hgl (by simp))).trans ((World.cell?_alloc_lt w _ _ hgl).trans x8)⟩)))
  · have hb4 := (Below.refl w3.heap.size w3).alloc (Nat.le_refl _) (.cells #[.int .i64 0, .int .i64 (-1), .string ⟨#[]⟩, .int .i64 0, .int .i64 0, .string ⟨#[]⟩, .int .i64 0, .int .i64 now] 40)
    have T1 := Lib.hid (show MAt (w3.alloc (.cells #[.int .i64 0, .int .i64 (-1), .string ⟨#[]⟩, .int .i64 0, .int .i64 0, .string ⟨#[]⟩, .int .i64 0, .int .i64 now] 40)) g cl ph tx 1 ttl (.slice (some ⟨q, 0, none⟩) 1 cq) at_ (.slice (some ⟨br, or_, none⟩) 1 cr) p from ((show MAt w.drew g cl ph tx 1 ttl (.slice (some ⟨q, 0, none⟩) 1 cq) at_ (.slice (some ⟨br, or_, none⟩) 1 cr) p from HM.out).below hb3 hgl).below hb4 (Nat.lt_of_lt_of_le hgl hz3))
    have T2 := Lib.hid (show Bk (w3.alloc (.cells #[.int .i64 0, .int .i64 (-1), .string ⟨#[]⟩, .int .i64 0, .int .i64 0, .string ⟨#[]⟩, .int .i64 0, .int .i64 now] 40)) w3.heap.size 40 #[.int .i64 0, .int .i64 (-1), .string ⟨#[]⟩, .int .i64 0, .int .i64 0, .string ⟨#[]⟩, .int .i64 0, .int .i64 now] from Bk.new w3 _ _)
    have T3 := Lib.hid (show SAt (w3.alloc (.cells #[.int .i64 0, .int .i64 (-1), .string ⟨#[]⟩, .int .i64 0, .int .i64 0, .string ⟨#[]⟩, .int .i64 0, .int .i64 now] 40)) s n lim now cnt lk st from Bk.below (Bk.below (show Bk w.drew s _ _ from HS.out) hb3 hsl) hb4 (Nat.lt_of_lt_of_le hsl hz3))
    have T4 := Lib.hid (show (w3.alloc (.cells #[.int .i64 0, .int .i64 (-1), .string ⟨#[]⟩, .int .i64 0, .int .i64 0, .string ⟨#[]⟩, .int .i64 0, .int .i64 now] 40)).ownsRow w.heap.size 38 4 (.slice A2 1 c2) 1 (rcC [⟨1, cl, x.a, now + ttl⟩]) from own_past ho3 hb4)
    have T5 := Lib.hid (show Oth [g, s] w (w3.alloc (.cells #[.int .i64 0, .int .i64 (-1), .string ⟨#[]⟩, .int .i64 0, .int .i64 0, .string ⟨#[]⟩, .int .i64 0, .int .i64 now] 40)) from (((Oth.refl [g, s] w).drew).trans (Oth.below hb3 (Nat.le_refl _))).alloc _)
    have hz4 : ¬ g = w3.heap.size := Nat.ne_of_lt (Nat.lt_of_lt_of_le hgl hz3)
    have hz5 : ¬ s = w3.heap.size := Nat.ne_of_lt (Nat.lt_of_lt_of_le hsl hz3)
    have hz6 : w.heap.size ≤ w3.heap.size := hz3
    clear hb4
    generalize hw4 : w3.alloc (.cells #[.int .i64 0, .int .i64 (-1), .string ⟨#[]⟩, .int .i64 0, .int .i64 0, .string ⟨#[]⟩, .int .i64 0, .int .i64 now] 40) = w4 at *
    clear hw4 HM HS HD x0 x1 x2 x3 x4 x5 x6 x7 x8 hb3 ho3 HS3 hz3
    have y0 := T2.out.cell 0; have y1 := T2.out.cell 1; have y2 := T2.out.cell 2; have y3 := T2.out.cell 3; have y4 := T2.out.cell 4; have y5 := T2.out.cell 5; have y6 := T2.out.cell 6; have y7 := T2.out.cell 7
    have m0 := T1.out.p0; have m1 := T1.out.p1; have m2 := T1.out.p2; have m3 := T1.out.p3; have m4 := T1.out.p4; have m5 := T1.out.p5; have m6 := T1.out.p6; have m7 := T1.out.p7
    have f0 := T1.out.fr 20
    have f1 := T1.out.fr 21
    have f2 := T1.out.fr 22
    have f3 := T1.out.fr 23
    have f4 := T1.out.fr 24
    have f5 := T1.out.fr 25
    have f6 := T1.out.fr 26
    have f7 := T1.out.fr 27
    have HE := Lib.hid (show MAt ((((((((w4.setCell ⟨g, 20, none⟩ (.int .i64 0)).setCell ⟨g, 21, none⟩ (.int .i64 (-1))).setCell ⟨g, 22, none⟩ (.string ⟨#[]⟩)).setCell ⟨g, 23, none⟩ (.int .i64 0)).setCell ⟨g, 24, none⟩ (.int .i64 0)).setCell ⟨g, 25, none⟩ (.string ⟨#[]⟩)).setCell ⟨g, 26, none⟩ (.int .i64 0)).setCell ⟨g, 27, none⟩ (.int .i64 now)) g cl ph tx 1 ttl (.slice (some ⟨q, 0, none⟩) 1 cq) at_ (.slice (some ⟨br, or_, none⟩) 1 cr) ⟨0, -1, ByteArray.empty, Rc.none, now⟩ from T1.out.srs ⟨0, -1, ByteArray.empty, Rc.none, now⟩)
    have HT := Lib.hid (show SAt ((((((((w4.setCell ⟨g, 20, none⟩ (.int .i64 0)).setCell ⟨g, 21, none⟩ (.int .i64 (-1))).setCell ⟨g, 22, none⟩ (.string ⟨#[]⟩)).setCell ⟨g, 23, none⟩ (.int .i64 0)).setCell ⟨g, 24, none⟩ (.int .i64 0)).setCell ⟨g, 25, none⟩ (.string ⟨#[]⟩)).setCell ⟨g, 26, none⟩ (.int .i64 0)).setCell ⟨g, 27, none⟩ (.int .i64 now)) s n lim now cnt lk st from far8g 20 T3.out hgs.symm (.int .i64 0) (.int .i64 (-1)) (.string ⟨#[]⟩) (.int .i64 0) (.int .i64 0) (.string ⟨#[]⟩) (.int .i64 0) (.int .i64 now))
    have HU := Lib.hid (show (((((((((w4.setCell ⟨g, 20, none⟩ (.int .i64 0)).setCell ⟨g, 21, none⟩ (.int .i64 (-1))).setCell ⟨g, 22, none⟩ (.string ⟨#[]⟩)).setCell ⟨g, 23, none⟩ (.int .i64 0)).setCell ⟨g, 24, none⟩ (.int .i64 0)).setCell ⟨g, 25, none⟩ (.string ⟨#[]⟩)).setCell ⟨g, 26, none⟩ (.int .i64 0)).setCell ⟨g, 27, none⟩ (.int .i64 now))).ownsRow w.heap.size 38 4 (.slice A2 1 c2) 1 (rcC [⟨1, cl, x.a, now + ttl⟩]) from own8g 20 T4.out hgl (.int .i64 0) (.int .i64 (-1)) (.string ⟨#[]⟩) (.int .i64 0) (.int .i64 0) (.string ⟨#[]⟩) (.int .i64 0) (.int .i64 now))
    have HV := Lib.hid (show Oth [g, s] w ((((((((w4.setCell ⟨g, 20, none⟩ (.int .i64 0)).setCell ⟨g, 21, none⟩ (.int .i64 (-1))).setCell ⟨g, 22, none⟩ (.string ⟨#[]⟩)).setCell ⟨g, 23, none⟩ (.int .i64 0)).setCell ⟨g, 24, none⟩ (.int .i64 0)).setCell ⟨g, 25, none⟩ (.string ⟨#[]⟩)).setCell ⟨g, 26, none⟩ (.int .i64 0)).setCell ⟨g, 27, none⟩ (.int .i64 now)) from oth8g 20 T5.out (.int .i64 0) (.int .i64 (-1)) (.string ⟨#[]⟩) (.int .i64 0) (.int .i64 0) (.string ⟨#[]⟩) (.int .i64 0) (.int .i64 now))
    have HW := Lib.hid (show Bk ((((((((w4.setCell ⟨g, 20, none⟩ (.int .i64 0)).setCell ⟨g, 21, none⟩ (.int .i64 (-1))).setCell ⟨g, 22, none⟩ (.string ⟨#[]⟩)).setCell ⟨g, 23, none⟩ (.int .i64 0)).setCell ⟨g, 24, none⟩ (.int .i64 0)).setCell ⟨g, 25, none⟩ (.string ⟨#[]⟩)).setCell ⟨g, 26, none⟩ (.int .i64 0)).setCell ⟨g, 27, none⟩ (.int .i64 now)) w3.heap.size 40 #[.int .i64 0, .int .i64 (-1), .string ⟨#[]⟩, .int .i64 0, .int .i64 0, .string ⟨#[]⟩, .int .i64 0, .int .i64 now] from Bk.far8g 20 T2.out (fun e => hz4 e.symm) (.int .i64 0) (.int .i64 (-1)) (.string ⟨#[]⟩) (.int .i64 0) (.int .i64 0) (.string ⟨#[]⟩) (.int .i64 0) (.int .i64 now))
    go_upto_region 3 with (fail)
    generalize hw5 : ((((((((w4.setCell ⟨g, 20, none⟩ (.int .i64 0)).setCell ⟨g, 21, none⟩ (.int .i64 (-1))).setCell ⟨g, 22, none⟩ (.string ⟨#[]⟩)).setCell ⟨g, 23, none⟩ (.int .i64 0)).setCell ⟨g, 24, none⟩ (.int .i64 0)).setCell ⟨g, 25, none⟩ (.string ⟨#[]⟩)).setCell ⟨g, 26, none⟩ (.int .i64 0)).setCell ⟨g, 27, none⟩ (.int .i64 now)) = w5 at *
    clear hw5 T1 T2 T3 T4 T5 y0 y1 y2 y3 y4 y5 y6 y7 m0 m1 m2 m3 m4 m5 m6 m7 f0 f1 f2 f3 f4 f5 f6 f7
    have z0 := HW.out.cell 0
    have c15 := HE.out.cop; have c19 := HE.out.crv
    go_wp2_with fail
    refine wp_loop_rounds 2 ?_
    rw [rounds_succ]
    have hbw : br < w.heap.size := Nat.lt_of_lt_of_le HBR.out.1 hB
    have hbs : br ∉ [g, s] := HBR.out.2.1
    have q0 : w5.cell? ⟨br, or_, none⟩ = some (.int .i64 r.st) := (HV.out.cell (p := ⟨br, or_, none⟩) hbw hbs).trans HBR.out.2.2.1
    have q1 : w5.cell? ⟨br, or_ + 1, none⟩ = some (.int .i64 r.ow) := (HV.out.cell (p := ⟨br, or_ + 1, none⟩) hbw hbs).trans HBR.out.2.2.2.1
    have q2 : w5.cell? ⟨br, or_ + 2, none⟩ = some (.string r.nm) := (HV.out.cell (p := ⟨br, or_ + 2, none⟩) hbw hbs).trans HBR.out.2.2.2.2.1
    have q3 : w5.cell? ⟨br, or_ + 3, none⟩ = some (.int .i64 r.dl) := (HV.out.cell (p := ⟨br, or_ + 3, none⟩) hbw hbs).trans HBR.out.2.2.2.2.2
    have HB6 := Lib.hid ((Below.refl w5.heap.size w5).alloc (Nat.le_refl _) (.cells (rcA r.st r.ow r.nm r.dl) 38))
    have HY6 := Lib.hid (Bk.new w5 38 (rcA r.st r.ow r.nm r.dl))
    go_upto_region 9 with (fail)
    generalize hw6 : w5.alloc (.cells (rcA r.st r.ow r.nm r.dl) 38) = w6 at *
    have HE6 := Lib.hid (HE.out.below HB6.out HE.out.lt)
    have HT6 := Lib.hid (show SAt w6 s n lim now cnt lk st from Bk.below HT.out HB6.out (Bk.lt HT.out))
    have HU6 := Lib.hid (own_past HU.out HB6.out)
    have HV6 := Lib.hid (HV.out.trans (Oth.below (S := [g, s]) HB6.out (Nat.le_refl _)))
    clear hw6 HE HT HU HV HW HB6 z0 c15 c19 q0 q1 q2 q3
    have u0 := HY6.out.cell 0; have u1 := HY6.out.cell 1; have u2 := HY6.out.cell 2; have u3 := HY6.out.cell 3
    have s3 := HT6.out.c3
    have sf := HT6.out.fr 3
    have c15 := HE6.out.cop
    have hsl6 := HT6.out.lt; have hgl6 := HE6.out.lt
    have hwr : IntKind.i64.wrap (cnt + gr) = cnt + gr := IntWalk.i64_in _ (by omega)
    go_region_with (go_at_call 88; refine (HG.out _).mono ?_; rintro e w7 ⟨rfl, hb7⟩; have s37 : w7.cell? ⟨s, 3, none⟩ = some (.int .i64 cnt) := (hb7.cell (p := ⟨s, 3, none⟩) hsl6).trans s3; have sf7 : w7.frozen? ⟨s, 3, none⟩ = false := SAt.fr (n := n) (lim := lim) (now := now) (cnt := cnt) (lk := lk) (st := st) (Bk.below (show Bk w6.drew s _ _ from HT6.out) hb7 hsl6) 3)
    all_goals
      have hb7d : Below w6.heap.size w6 w7 := (Below.refl w6.heap.size w6).drew.trans hb7
      have HE7 := Lib.hid ((HE6.out.below hb7d hgl6).far (q := ⟨s, 3, none⟩) hgs (.int .i64 (cnt + gr)))
      have HT7 := Lib.hid (SAt.scnt (show SAt w7 s n lim now cnt lk st from Bk.below HT6.out hb7d hsl6) (cnt + gr))
      have HU7 := Lib.hid (ownsRow_setCell_below (own_past HU6.out hb7d) (a := ⟨s, 3, none⟩) hsl (.int .i64 (cnt + gr)))
      have HV7 := Lib.hid ((HV6.out.trans (Oth.below (S := [g, s]) hb7d (Nat.le_refl _))).setCell (p := ⟨s, 3, none⟩) (.inl (by simp)) (.int .i64 (cnt + gr)))
      generalize hw8 : w7.setCell ⟨s, 3, none⟩ (.int .i64 (cnt + gr)) = w8 at *
      clear hw8 hb7 hb7d HE6 HT6 HU6 HV6 HY6 u0 u1 u2 u3 s3 sf c15 s37 sf7
      go_wp2_with fail
      rw [rounds_succ]
      have c19 := HE7.out.crv
      have f19 := HE7.out.fr 19
      go_wp2_with fail
      have HE8 := Lib.hid (HE7.out.srv (.slice A2 1 c2))
      have HT8 := Lib.hid (SAt.oth HT7.out ((Oth.refl [g] w8).setCell (p := ⟨g, 19, none⟩) (.inl (by simp)) (.slice A2 1 c2)) (by simpa using hgs.symm))
      have HU8 := Lib.hid (ownsRow_setCell_below HU7.out (a := ⟨g, 19, none⟩) hgl (.slice A2 1 c2))
      have HV8 := Lib.hid (HV7.out.setCell (p := ⟨g, 19, none⟩) (.inl (by simp)) (.slice A2 1 c2))
      generalize hw9 : w8.setCell ⟨g, 19, none⟩ (.slice A2 1 c2) = w9 at *
      clear hw9 HE7 HT7 HU7 HV7 c19 f19
      refine (enter_any 5 HE8.out).mono ?_
      rintro e w10 ⟨rfl, hm, ho⟩
      have HM9 := Lib.hid hm
      have HS9 := Lib.hid (SAt.oth HT8.out ho (by simpa using hgs.symm))
      have HU9 := Lib.hid (own_oth HU8.out ho (by intro i hi; simp at hi; subst hi; exact hgl))
      have HV9 := Lib.hid (HV8.out.trans (ho.more (T := [g, s]) (by simp)))
      clear hm ho
      go_wp2_with fail
      go_ret
      exact ⟨A2, c2, rfl, HM9.out, HS9.out, HU9.out, HV9.out⟩
  · have hlt3 : w.heap.size < w3.heap.size := HB4.lt
    have hal : Below w.heap.size w (w.alloc (.cells rs0 40)).drew := ((Below.refl _ _).alloc (Nat.le_refl _) _).drew
    have T1 := Lib.hid (show MAt ((((((((w3.setCell ⟨w.heap.size, 0, none⟩ (.int .i64 0)).setCell ⟨w.heap.size, 1, none⟩ (.int .i64 (-1))).setCell ⟨w.heap.size, 2, none⟩ (.string ⟨#[]⟩)).setCell ⟨w.heap.size, 3, none⟩ (.int .i64 0)).setCell ⟨w.heap.size, 4, none⟩ (.int .i64 0)).setCell ⟨w.heap.size, 5, none⟩ (.string ⟨#[]⟩)).setCell ⟨w.heap.size, 6, none⟩ (.int .i64 0)).setCell ⟨w.heap.size, 7, none⟩ (.int .i64 now)) g cl ph tx 1 ttl (.slice (some ⟨q, 0, none⟩) 1 cq) at_ (.slice (some ⟨br, or_, none⟩) 1 cr) p from Bk.far8 ((HM.out.below hal hgl).below hb3 (Nat.lt_of_lt_of_le hgl hal.size)) (Nat.ne_of_lt hgl) (.int .i64 0) (.int .i64 (-1)) (.string ⟨#[]⟩) (.int .i64 0) (.int .i64 0) (.string ⟨#[]⟩) (.int .i64 0) (.int .i64 now))
    have T2 := Lib.hid (show Bk ((((((((w3.setCell ⟨w.heap.size, 0, none⟩ (.int .i64 0)).setCell ⟨w.heap.size, 1, none⟩ (.int .i64 (-1))).setCell ⟨w.heap.size, 2, none⟩ (.string ⟨#[]⟩)).setCell ⟨w.heap.size, 3, none⟩ (.int .i64 0)).setCell ⟨w.heap.size, 4, none⟩ (.int .i64 0)).setCell ⟨w.heap.size, 5, none⟩ (.string ⟨#[]⟩)).setCell ⟨w.heap.size, 6, none⟩ (.int .i64 0)).setCell ⟨w.heap.size, 7, none⟩ (.int .i64 now)) w.heap.size 40 #[.int .i64 0, .int .i64 (-1), .string ⟨#[]⟩, .int .i64 0, .int .i64 0, .string ⟨#[]⟩, .int .i64 0, .int .i64 now] from set8 HB4 (.int .i64 0) (.int .i64 (-1)) (.string ⟨#[]⟩) (.int .i64 0) (.int .i64 0) (.string ⟨#[]⟩) (.int .i64 0) (.int .i64 now))
    have T3 := Lib.hid (show SAt ((((((((w3.setCell ⟨w.heap.size, 0, none⟩ (.int .i64 0)).setCell ⟨w.heap.size, 1, none⟩ (.int .i64 (-1))).setCell ⟨w.heap.size, 2, none⟩ (.string ⟨#[]⟩)).setCell ⟨w.heap.size, 3, none⟩ (.int .i64 0)).setCell ⟨w.heap.size, 4, none⟩ (.int .i64 0)).setCell ⟨w.heap.size, 5, none⟩ (.string ⟨#[]⟩)).setCell ⟨w.heap.size, 6, none⟩ (.int .i64 0)).setCell ⟨w.heap.size, 7, none⟩ (.int .i64 now)) s n lim now cnt lk st from Bk.far8 (Bk.below (Bk.below HS.out hal hsl) hb3 (Nat.lt_of_lt_of_le hsl hal.size)) (Nat.ne_of_lt hsl) (.int .i64 0) (.int .i64 (-1)) (.string ⟨#[]⟩) (.int .i64 0) (.int .i64 0) (.string ⟨#[]⟩) (.int .i64 0) (.int .i64 now))
    have T4 := Lib.hid (show (((((((((w3.setCell ⟨w.heap.size, 0, none⟩ (.int .i64 0)).setCell ⟨w.heap.size, 1, none⟩ (.int .i64 (-1))).setCell ⟨w.heap.size, 2, none⟩ (.string ⟨#[]⟩)).setCell ⟨w.heap.size, 3, none⟩ (.int .i64 0)).setCell ⟨w.heap.size, 4, none⟩ (.int .i64 0)).setCell ⟨w.heap.size, 5, none⟩ (.string ⟨#[]⟩)).setCell ⟨w.heap.size, 6, none⟩ (.int .i64 0)).setCell ⟨w.heap.size, 7, none⟩ (.int .i64 now))).ownsRow w.heap.size 38 4 (.slice A2 1 c2) 1 (rcC [⟨1, cl, x.a, now + ttl⟩]) from own_lower (own8 ho3 (show w.heap.size < (w.alloc (.cells rs0 40)).heap.size by simp) (.int .i64 0) (.int .i64 (-1)) (.string ⟨#[]⟩) (.int .i64 0) (.int .i64 0) (.string ⟨#[]⟩) (.int .i64 0) (.int .i64 now)) hal.size)
    have T5 := Lib.hid (show Oth [g, s] w ((((((((w3.setCell ⟨w.heap.size, 0, none⟩ (.int .i64 0)).setCell ⟨w.heap.size, 1, none⟩ (.int .i64 (-1))).setCell ⟨w.heap.size, 2, none⟩ (.string ⟨#[]⟩)).setCell ⟨w.heap.size, 3, none⟩ (.int .i64 0)).setCell ⟨w.heap.size, 4, none⟩ (.int .i64 0)).setCell ⟨w.heap.size, 5, none⟩ (.string ⟨#[]⟩)).setCell ⟨w.heap.size, 6, none⟩ (.int .i64 0)).setCell ⟨w.heap.size, 7, none⟩ (.int .i64 now)) from Oth.sets8 ((Oth.below hal (Nat.le_refl _)).trans (Oth.below hb3 (Nat.le_refl _))) (Nat.le_refl _) (.int .i64 0) (.int .i64 (-1)) (.string ⟨#[]⟩) (.int .i64 0) (.int .i64 0) (.string ⟨#[]⟩) (.int .i64 0) (.int .i64 now))
    have hz4 : ¬ g = w.heap.size := Nat.ne_of_lt hgl
    have hz5 : ¬ s = w.heap.size := Nat.ne_of_lt hsl
    have hz6 : w.heap.size ≤ w.heap.size := Nat.le_refl _
    clear hal
    generalize hw4 : ((((((((w3.setCell ⟨w.heap.size, 0, none⟩ (.int .i64 0)).setCell ⟨w.heap.size, 1, none⟩ (.int .i64 (-1))).setCell ⟨w.heap.size, 2, none⟩ (.string ⟨#[]⟩)).setCell ⟨w.heap.size, 3, none⟩ (.int .i64 0)).setCell ⟨w.heap.size, 4, none⟩ (.int .i64 0)).setCell ⟨w.heap.size, 5, none⟩ (.string ⟨#[]⟩)).setCell ⟨w.heap.size, 6, none⟩ (.int .i64 0)).setCell ⟨w.heap.size, 7, none⟩ (.int .i64 now)) = w4 at *
    clear hw4 HM HS HD x0 x1 x2 x3 x4 x5 x6 x7 x8 hb3 ho3 HS3 hz3 HB4 hlt3 k0 kf0 k1 kf1 k2 kf2 k3 kf3 k4 kf4 k5 kf5 k6 kf6 k7 kf7
    have y0 := T2.out.cell 0; have y1 := T2.out.cell 1; have y2 := T2.out.cell 2; have y3 := T2.out.cell 3; have y4 := T2.out.cell 4; have y5 := T2.out.cell 5; have y6 := T2.out.cell 6; have y7 := T2.out.cell 7
    have m0 := T1.out.p0; have m1 := T1.out.p1; have m2 := T1.out.p2; have m3 := T1.out.p3; have m4 := T1.out.p4; have m5 := T1.out.p5; have m6 := T1.out.p6; have m7 := T1.out.p7
    have f0 := T1.out.fr 20
    have f1 := T1.out.fr 21
    have f2 := T1.out.fr 22
    have f3 := T1.out.fr 23
    have f4 := T1.out.fr 24
    have f5 := T1.out.fr 25
    have f6 := T1.out.fr 26
    have f7 := T1.out.fr 27
    have HE := Lib.hid (show MAt ((((((((w4.setCell ⟨g, 20, none⟩ (.int .i64 0)).setCell ⟨g, 21, none⟩ (.int .i64 (-1))).setCell ⟨g, 22, none⟩ (.string ⟨#[]⟩)).setCell ⟨g, 23, none⟩ (.int .i64 0)).setCell ⟨g, 24, none⟩ (.int .i64 0)).setCell ⟨g, 25, none⟩ (.string ⟨#[]⟩)).setCell ⟨g, 26, none⟩ (.int .i64 0)).setCell ⟨g, 27, none⟩ (.int .i64 now)) g cl ph tx 1 ttl (.slice (some ⟨q, 0, none⟩) 1 cq) at_ (.slice (some ⟨br, or_, none⟩) 1 cr) ⟨0, -1, ByteArray.empty, Rc.none, now⟩ from T1.out.srs ⟨0, -1, ByteArray.empty, Rc.none, now⟩)
    have HT := Lib.hid (show SAt ((((((((w4.setCell ⟨g, 20, none⟩ (.int .i64 0)).setCell ⟨g, 21, none⟩ (.int .i64 (-1))).setCell ⟨g, 22, none⟩ (.string ⟨#[]⟩)).setCell ⟨g, 23, none⟩ (.int .i64 0)).setCell ⟨g, 24, none⟩ (.int .i64 0)).setCell ⟨g, 25, none⟩ (.string ⟨#[]⟩)).setCell ⟨g, 26, none⟩ (.int .i64 0)).setCell ⟨g, 27, none⟩ (.int .i64 now)) s n lim now cnt lk st from far8g 20 T3.out hgs.symm (.int .i64 0) (.int .i64 (-1)) (.string ⟨#[]⟩) (.int .i64 0) (.int .i64 0) (.string ⟨#[]⟩) (.int .i64 0) (.int .i64 now))
    have HU := Lib.hid (show (((((((((w4.setCell ⟨g, 20, none⟩ (.int .i64 0)).setCell ⟨g, 21, none⟩ (.int .i64 (-1))).setCell ⟨g, 22, none⟩ (.string ⟨#[]⟩)).setCell ⟨g, 23, none⟩ (.int .i64 0)).setCell ⟨g, 24, none⟩ (.int .i64 0)).setCell ⟨g, 25, none⟩ (.string ⟨#[]⟩)).setCell ⟨g, 26, none⟩ (.int .i64 0)).setCell ⟨g, 27, none⟩ (.int .i64 now))).ownsRow w.heap.size 38 4 (.slice A2 1 c2) 1 (rcC [⟨1, cl, x.a, now + ttl⟩]) from own8g 20 T4.out hgl (.int .i64 0) (.int .i64 (-1)) (.string ⟨#[]⟩) (.int .i64 0) (.int .i64 0) (.string ⟨#[]⟩) (.int .i64 0) (.int .i64 now))
    have HV := Lib.hid (show Oth [g, s] w ((((((((w4.setCell ⟨g, 20, none⟩ (.int .i64 0)).setCell ⟨g, 21, none⟩ (.int .i64 (-1))).setCell ⟨g, 22, none⟩ (.string ⟨#[]⟩)).setCell ⟨g, 23, none⟩ (.int .i64 0)).setCell ⟨g, 24, none⟩ (.int .i64 0)).setCell ⟨g, 25, none⟩ (.string ⟨#[]⟩)).setCell ⟨g, 26, none⟩ (.int .i64 0)).setCell ⟨g, 27, none⟩ (.int .i64 now)) from oth8g 20 T5.out (.int .i64 0) (.int .i64 (-1)) (.string ⟨#[]⟩) (.int .i64 0) (.int .i64 0) (.string ⟨#[]⟩) (.int .i64 0) (.int .i64 now))
    have HW := Lib.hid (show Bk ((((((((w4.setCell ⟨g, 20, none⟩ (.int .i64 0)).setCell ⟨g, 21, none⟩ (.int .i64 (-1))).setCell ⟨g, 22, none⟩ (.string ⟨#[]⟩)).setCell ⟨g, 23, none⟩ (.int .i64 0)).setCell ⟨g, 24, none⟩ (.int .i64 0)).setCell ⟨g, 25, none⟩ (.string ⟨#[]⟩)).setCell ⟨g, 26, none⟩ (.int .i64 0)).setCell ⟨g, 27, none⟩ (.int .i64 now)) w.heap.size 40 #[.int .i64 0, .int .i64 (-1), .string ⟨#[]⟩, .int .i64 0, .int .i64 0, .string ⟨#[]⟩, .int .i64 0, .int .i64 now] from Bk.far8g 20 T2.out (fun e => hz4 e.symm) (.int .i64 0) (.int .i64 (-1)) (.string ⟨#[]⟩) (.int .i64 0) (.int .i64 0) (.string ⟨#[]⟩) (.int .i64 0) (.int .i64 now))
    go_upto_region 3 with (fail)
    generalize hw5 : ((((((((w4.setCell ⟨g, 20, none⟩ (.int .i64 0)).setCell ⟨g, 21, none⟩ (.int .i64 (-1))).setCell ⟨g, 22, none⟩ (.string ⟨#[]⟩)).setCell ⟨g, 23, none⟩ (.int .i64 0)).setCell ⟨g, 24, none⟩ (.int .i64 0)).setCell ⟨g, 25, none⟩ (.string ⟨#[]⟩)).setCell ⟨g, 26, none⟩ (.int .i64 0)).setCell ⟨g, 27, none⟩ (.int .i64 now)) = w5 at *
    clear hw5 T1 T2 T3 T4 T5 y0 y1 y2 y3 y4 y5 y6 y7 m0 m1 m2 m3 m4 m5 m6 m7 f0 f1 f2 f3 f4 f5 f6 f7
    have z0 := HW.out.cell 0
    have c15 := HE.out.cop; have c19 := HE.out.crv
    go_wp2_with fail
    refine wp_loop_rounds 2 ?_
    rw [rounds_succ]
    have hbw : br < w.heap.size := Nat.lt_of_lt_of_le HBR.out.1 hB
    have hbs : br ∉ [g, s] := HBR.out.2.1
    have q0 : w5.cell? ⟨br, or_, none⟩ = some (.int .i64 r.st) := (HV.out.cell (p := ⟨br, or_, none⟩) hbw hbs).trans HBR.out.2.2.1
    have q1 : w5.cell? ⟨br, or_ + 1, none⟩ = some (.int .i64 r.ow) := (HV.out.cell (p := ⟨br, or_ + 1, none⟩) hbw hbs).trans HBR.out.2.2.2.1
    have q2 : w5.cell? ⟨br, or_ + 2, none⟩ = some (.string r.nm) := (HV.out.cell (p := ⟨br, or_ + 2, none⟩) hbw hbs).trans HBR.out.2.2.2.2.1
    have q3 : w5.cell? ⟨br, or_ + 3, none⟩ = some (.int .i64 r.dl) := (HV.out.cell (p := ⟨br, or_ + 3, none⟩) hbw hbs).trans HBR.out.2.2.2.2.2
    have HB6 := Lib.hid ((Below.refl w5.heap.size w5).alloc (Nat.le_refl _) (.cells (rcA r.st r.ow r.nm r.dl) 38))
    have HY6 := Lib.hid (Bk.new w5 38 (rcA r.st r.ow r.nm r.dl))
    go_upto_region 9 with (fail)
    generalize hw6 : w5.alloc (.cells (rcA r.st r.ow r.nm r.dl) 38) = w6 at *
    have HE6 := Lib.hid (HE.out.below HB6.out HE.out.lt)
    have HT6 := Lib.hid (show SAt w6 s n lim now cnt lk st from Bk.below HT.out HB6.out (Bk.lt HT.out))
    have HU6 := Lib.hid (own_past HU.out HB6.out)
    have HV6 := Lib.hid (HV.out.trans (Oth.below (S := [g, s]) HB6.out (Nat.le_refl _)))
    clear hw6 HE HT HU HV HW HB6 z0 c15 c19 q0 q1 q2 q3
    have u0 := HY6.out.cell 0; have u1 := HY6.out.cell 1; have u2 := HY6.out.cell 2; have u3 := HY6.out.cell 3
    have s3 := HT6.out.c3
    have sf := HT6.out.fr 3
    have c15 := HE6.out.cop
    have hsl6 := HT6.out.lt; have hgl6 := HE6.out.lt
    have hwr : IntKind.i64.wrap (cnt + gr) = cnt + gr := IntWalk.i64_in _ (by omega)
    go_region_with (go_at_call 88; refine (HG.out _).mono ?_; rintro e w7 ⟨rfl, hb7⟩; have s37 : w7.cell? ⟨s, 3, none⟩ = some (.int .i64 cnt) := (hb7.cell (p := ⟨s, 3, none⟩) hsl6).trans s3; have sf7 : w7.frozen? ⟨s, 3, none⟩ = false := SAt.fr (n := n) (lim := lim) (now := now) (cnt := cnt) (lk := lk) (st := st) (Bk.below (show Bk w6.drew s _ _ from HT6.out) hb7 hsl6) 3)
    all_goals
      have hb7d : Below w6.heap.size w6 w7 := (Below.refl w6.heap.size w6).drew.trans hb7
      have HE7 := Lib.hid ((HE6.out.below hb7d hgl6).far (q := ⟨s, 3, none⟩) hgs (.int .i64 (cnt + gr)))
      have HT7 := Lib.hid (SAt.scnt (show SAt w7 s n lim now cnt lk st from Bk.below HT6.out hb7d hsl6) (cnt + gr))
      have HU7 := Lib.hid (ownsRow_setCell_below (own_past HU6.out hb7d) (a := ⟨s, 3, none⟩) hsl (.int .i64 (cnt + gr)))
      have HV7 := Lib.hid ((HV6.out.trans (Oth.below (S := [g, s]) hb7d (Nat.le_refl _))).setCell (p := ⟨s, 3, none⟩) (.inl (by simp)) (.int .i64 (cnt + gr)))
      generalize hw8 : w7.setCell ⟨s, 3, none⟩ (.int .i64 (cnt + gr)) = w8 at *
      clear hw8 hb7 hb7d HE6 HT6 HU6 HV6 HY6 u0 u1 u2 u3 s3 sf c15 s37 sf7
      go_wp2_with fail
      rw [rounds_succ]
      have c19 := HE7.out.crv
      have f19 := HE7.out.fr 19
      go_wp2_with fail
      have HE8 := Lib.hid (HE7.out.srv (.slice A2 1 c2))
      have HT8 := Lib.hid (SAt.oth HT7.out ((Oth.refl [g] w8).setCell (p := ⟨g, 19, none⟩) (.inl (by simp)) (.slice A2 1 c2)) (by simpa using hgs.symm))
      have HU8 := Lib.hid (ownsRow_setCell_below HU7.out (a := ⟨g, 19, none⟩) hgl (.slice A2 1 c2))
      have HV8 := Lib.hid (HV7.out.setCell (p := ⟨g, 19, none⟩) (.inl (by simp)) (.slice A2 1 c2))
      generalize hw9 : w8.setCell ⟨g, 19, none⟩ (.slice A2 1 c2) = w9 at *
      clear hw9 HE7 HT7 HU7 HV7 c19 f19
      refine (enter_any 5 HE8.out).mono ?_
      rintro e w10 ⟨rfl, hm, ho⟩
      have HM9 := Lib.hid hm
      have HS9 := Lib.hid (SAt.oth HT8.out ho (by simpa using hgs.symm))
      have HU9 := Lib.hid (own_oth HU8.out ho (by intro i hi; simp at hi; subst hi; exact hgl))
      have HV9 := Lib.hid (HV8.out.trans (ho.more (T := [g, s]) (by simp)))
      clear hm ho
      go_wp2_with fail
      go_ret
      exact ⟨A2, c2, rfl, HM9.out, HS9.out, HU9.out, HV9.out⟩
end Go.Proofs.YtddieenjdaociaaGreatDoor
