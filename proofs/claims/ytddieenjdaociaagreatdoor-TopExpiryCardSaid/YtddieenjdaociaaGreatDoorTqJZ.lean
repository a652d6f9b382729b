/- model.Decide of one name. -/
import Derived.Test.YtddieenjdaociaaGreatDoorM15
namespace Go.Proofs.YtddieenjdaociaaGreatDoor
open Go Go.RowKit Go.Shelf
set_option linter.unusedVariables false

/-- Element cells of a row of names, of records. -/
theorem nm_cells {w : World} {B : Nat} {A : Option Addr} {x : Nm} (h : Rd w B 3 A 1 (nmsC [x])) : ∃ b off, A = some ⟨b, off, none⟩ ∧ b < B ∧ w.cell? ⟨b, off, none⟩ = some (.string x.a) ∧ w.cell? ⟨b, off + 1, none⟩ = some (.string x.u) ∧ w.cell? ⟨b, off + 2, none⟩ = some (.string x.k) := by
  obtain ⟨b, off, e, hb, hc⟩ := h.2 (by simp [nmsC, Nm.cells])
  exact ⟨b, off, e, hb, hc 0 _ rfl, hc 1 _ rfl, hc 2 _ rfl⟩
theorem rc_cells {w : World} {B : Nat} {A : Option Addr} {r : Rc} (h : Rd w B 4 A 1 (rcC [r])) : ∃ b off, A = some ⟨b, off, none⟩ ∧ b < B ∧ w.cell? ⟨b, off, none⟩ = some (.int .i64 r.st) ∧ w.cell? ⟨b, off + 1, none⟩ = some (.int .i64 r.ow) ∧ w.cell? ⟨b, off + 2, none⟩ = some (.string r.nm) ∧ w.cell? ⟨b, off + 3, none⟩ = some (.int .i64 r.dl) := by
  obtain ⟨b, off, e, hb, hc⟩ := h.2 (by simp [rcC, Rc.cells])
  exact ⟨b, off, e, hb, hc 0 _ rfl, hc 1 _ rfl, hc 2 _ rfl, hc 3 _ rfl⟩
/-- Four cells in the middle of a block. -/
theorem mid4 {w : World} {g : Nat} {T : TypeId} {a0 a1 a2 a3 a4 a5 a6 a7 : Value} (h : Bk w g T #[a0, a1, a2, a3, a4, a5, a6, a7]) (v0 v1 v2 v3 : Value) : Bk ((((w.setCell ⟨g, 3, none⟩ v0).setCell ⟨g, 4, none⟩ v1).setCell ⟨g, 5, none⟩ v2).setCell ⟨g, 6, none⟩ v3) g T #[a0, a1, a2, v0, v1, v2, v3, a7] := by
  have h0 : Bk _ g T #[a0, a1, a2, v0, a4, a5, a6, a7] := h.set_ 3 v0
  have h1 : Bk _ g T #[a0, a1, a2, v0, v1, a5, a6, a7] := h0.set_ 4 v1
  have h2 : Bk _ g T #[a0, a1, a2, v0, v1, v2, a6, a7] := h1.set_ 5 v2
  exact h2.set_ 6 v3
/-- The call returns a response and the records afterwards. -/
def RetDec (p : Rs) (l : List Rc) (w : World) (e : Ending) (w' : World) : Prop :=
  ∃ A c, e = .returned (.tuple #[.agg p.arr, .slice A l.length c]) ∧ w'.ownsRow w.heap.size 38 4 (.slice A l.length c) l.length (rcC l) ∧ Below w.heap.size w w'
@[reducible] def rsA (a b : Int) (s : ByteArray) (st ow : Int) (nm : ByteArray) (dl tk : Int) : Array Value := #[.int .i64 a, .int .i64 b, .string s, .int .i64 st, .int .i64 ow, .string nm, .int .i64 dl, .int .i64 tk]
theorem test_live (r : Rc) (client now : Int) (ha : r.st = 0 ∨ r.st = 1) (h : r.live now = true) (w : World) :
    Calls Tryz.prog 120 #[.agg (rcA r.st r.ow r.nm r.dl), .int .i64 1, .int .i64 client, .int .i64 now] w fun e w' => e = .returned (.int .i64 24) ∧ Below w.heap.size w w' := by
  have := test_hold r.st r.ow r.nm r.dl client now ha w
  rw [show Rc.live ⟨r.st, r.ow, r.nm, r.dl⟩ now = true from h] at this
  exact this
theorem test_free (r : Rc) (client now : Int) (ha : r.st = 0 ∨ r.st = 1) (h : r.live now = false) (w : World) :
    Calls Tryz.prog 120 #[.agg (rcA r.st r.ow r.nm r.dl), .int .i64 1, .int .i64 client, .int .i64 now] w fun e w' => e = .returned (.int .i64 0) ∧ Below w.heap.size w w' := by
  have := test_hold r.st r.ow r.nm r.dl client now ha w
  rw [show Rc.live ⟨r.st, r.ow, r.nm, r.dl⟩ now = false from h] at this
  exact this
set_option maxRecDepth 100000 in
set_option maxHeartbeats 8000000 in
theorem decide_held (cl cap count client ttl now : Int) (x : Nm) (r : Rc) (An Ar : Option Addr) (cn_ cr B : Nat) (w : World) (hn : Rd w B 3 An 1 (nmsC [x])) (hr : Rd w B 4 Ar 1 (rcC [r])) (hB : B ≤ w.heap.size)
    (hst : r.st = 0 ∨ r.st = 1) (hlv : r.live now = true) (h0 : 0 ≤ now) (h1 : 1 ≤ ttl) (h2 : now + ttl ≤ 1073741824) :
    Calls Tryz.prog 87 #[.agg #[.int .i64 cl, .int .i64 cap], .int .i64 count, .int .i64 client, .int .i64 1, .int .i64 ttl, .slice An 1 cn_, .slice Ar 1 cr, .int .i64 now] w (RetDec ⟨24, 0, x.a, Rc.none, now⟩ [] w) := by
  have HL := Lib.hid (fun w => test_live r client now hst hlv w)
  have HG := Lib.hid (fun w => grows_hold r.st r.ow r.nm r.dl hst w)
  generalize 1 - r.st = gr at *
  have HN := Lib.hid hn; have HR := Lib.hid hr
  have HB0 := Lib.hid (below_two w (.cells #[.int .i64 cl, .int .i64 cap] 32) (.cells (rsA 0 0 ⟨#[]⟩ 0 0 ⟨#[]⟩ 0 0) 40))
  have HC0 := Lib.hid ((Bk.new w 32 #[.int .i64 cl, .int .i64 cap]).alloc (.cells (rsA 0 0 ⟨#[]⟩ 0 0 ⟨#[]⟩ 0 0) 40))
  have HP0 := Lib.hid (bk_second w (.cells #[.int .i64 cl, .int .i64 cap] 32) 40 (rsA 0 0 ⟨#[]⟩ 0 0 ⟨#[]⟩ 0 0))
  clear hn hr hlv hst
  go_enter Tryz.func87, Tryz.ntmps87
  go_wp2_with fail
  refine (mtimed_hold _).mono ?_
  rintro e w1 ⟨rfl, rfl⟩
  go_wp2_with fail
  refine (deadline_ok now ttl h0 h1 h2 _).mono ?_
  rintro e w1 ⟨rfl, rfl⟩
  go_wp2_with fail
  have HN2 := Lib.hid (HN.out.below (HB0.out.mono hB)); have HR2 := Lib.hid (HR.out.below (HB0.out.mono hB))
  generalize hw2 : (w.alloc (.cells #[.int .i64 cl, .int .i64 cap] 32)).alloc (.cells (rsA 0 0 ⟨#[]⟩ 0 0 ⟨#[]⟩ 0 0) 40) = w2 at *
  have hs2 : w.heap.size + 2 ≤ w2.heap.size := by rw [← hw2]; simp
  clear hw2 HN HR
  obtain ⟨bn, on, rfl, hbn, n0, n1, n2⟩ := nm_cells HN2.out
  obtain ⟨br, or_, rfl, hbr, r0, r1, r2, r3⟩ := rc_cells HR2.out
  have HR0 := Lib.hid r0; have HR1 := Lib.hid r1; have HRR2 := Lib.hid r2; have HR3 := Lib.hid r3
  have hbn2 : bn < w2.heap.size := by omega
  have hbr2 : br < w2.heap.size := by omega
  refine wp_loop_rounds 1 ?_
  rw [rounds_succ]
  go_wp2_with fail
  refine (HL.out _).mono ?_
  rintro e w3 ⟨rfl, hb3⟩
  have hs3 : w2.heap.size + 2 ≤ w3.heap.size := by have := hb3.size; simp at this; omega
  have hb23 := below_two w2 (.cells #[.string x.a, .string x.u, .string x.k] 127) (.cells (rcA r.st r.ow r.nm r.dl) 38)
  have HK3 := Lib.hid (((Bk.new w2 127 #[.string x.a, .string x.u, .string x.k]).alloc (.cells (rcA r.st r.ow r.nm r.dl) 38)).below hb3 (by simp; omega))
  have HQ3 := Lib.hid ((bk_second w2 (.cells #[.string x.a, .string x.u, .string x.k] 127) 38 (rcA r.st r.ow r.nm r.dl)).below hb3 (by simp))
  have hb23 := hb23.trans (hb3.mono (by simp; omega))
  have HC3 := Lib.hid (HC0.out.below hb23 HC0.out.lt)
  have HP3 := Lib.hid (HP0.out.below hb23 HP0.out.lt)
  have HB3 := Lib.hid (HB0.out.trans (hb23.mono (by omega)))
  have HBB3 := Lib.hid hb23
  clear hb3 hb23 HC0 HP0 HB0 n0 n1 n2 r0 r1 r2 r3
  have q0 : w3.cell? ⟨w2.heap.size + 1, 0, none⟩ = some (.int .i64 r.st) := HQ3.out.cell 0
  have q1 : w3.cell? ⟨w2.heap.size + 1, 1, none⟩ = some (.int .i64 r.ow) := HQ3.out.cell 1
  have q2 : w3.cell? ⟨w2.heap.size + 1, 2, none⟩ = some (.string r.nm) := HQ3.out.cell 2
  have q3 : w3.cell? ⟨w2.heap.size + 1, 3, none⟩ = some (.int .i64 r.dl) := HQ3.out.cell 3
  go_wp2_with fail
  refine (HG.out _).mono ?_
  rintro e w4 ⟨rfl, hb4⟩
  have hs4 := hb4.size
  have HK4 := Lib.hid (HK3.out.below hb4 HK3.out.lt)
  have HQ4 := Lib.hid (HQ3.out.below hb4 HQ3.out.lt)
  have HC4 := Lib.hid (HC3.out.below hb4 HC3.out.lt)
  have HP4 := Lib.hid (HP3.out.below hb4 HP3.out.lt)
  have HB4 := Lib.hid (HB3.out.trans (hb4.mono (by omega)))
  have HBB4 := Lib.hid (HBB3.out.trans (hb4.mono (by omega)))
  clear hb4 HK3 HQ3 HC3 HP3 HB3 HBB3 q0 q1 q2 q3
  have n0 : w4.cell? ⟨w2.heap.size, 0, none⟩ = some (.string x.a) := HK4.out.cell 0
  have c1 : w4.cell? ⟨w.heap.size, 1, none⟩ = some (.int .i64 cap) := HC4.out.cell 1
  have p0 : ∀ i : Nat, w4.cell? ⟨w.heap.size + 1, i, none⟩ = (rsA 0 0 ⟨#[]⟩ 0 0 ⟨#[]⟩ 0 0)[i]? := fun i => HP4.out.cell i
  have f0 : ∀ i : Nat, w4.frozen? ⟨w.heap.size + 1, i, none⟩ = false := fun i => HP4.out.frozen i
  go_wp2_with fail
  exact bodyPost_ret (results_row_tmp (P := Tryz.prog) (p := 16) (u := 17) (ty := 40) rfl _ _ (w.heap.size + 1) (Rs.arr ⟨24, 0, x.a, Rc.none, now⟩) rfl (set8 HP4.out (.int .i64 24) (.int .i64 0) (.string x.a) (.int .i64 0) (.int .i64 0) (.string ⟨#[]⟩) (.int .i64 0) (.int .i64 now)) Tryz.underlying40 (by kernel_rfl)) rfl
    ⟨none, 0, rfl, World.ownsRow_nil _ _ _ _, below8 HB4.out (by omega) _ _ _ _ _ _ _ _⟩
set_option maxRecDepth 100000 in
set_option maxHeartbeats 8000000 in
theorem decide_hold (cl cap count client ttl now gr : Int) (x : Nm) (r : Rc) (An Ar : Option Addr) (cn_ cr B : Nat) (w : World) (hn : Rd w B 3 An 1 (nmsC [x])) (hr : Rd w B 4 Ar 1 (rcC [r])) (hB : B ≤ w.heap.size)
    (hst : r.st = 0 ∨ r.st = 1) (h0 : 0 ≤ now) (hcnt : 0 ≤ count ∧ count ≤ 1000) (hlv : r.live now = false) (h1 : 1 ≤ ttl) (h2 : now + ttl ≤ 1073741824) (hgr : 1 - r.st = gr) (hcap : (gr = 1 ∧ count < cap) ∨ gr = 0) :
    Calls Tryz.prog 87 #[.agg #[.int .i64 cl, .int .i64 cap], .int .i64 count, .int .i64 client, .int .i64 1, .int .i64 ttl, .slice An 1 cn_, .slice Ar 1 cr, .int .i64 now] w (RetDec ⟨0, -1, ByteArray.empty, Rc.none, now⟩ [⟨1, client, x.a, now + ttl⟩] w) := by
  have HL := Lib.hid (fun w => test_free r client now hst hlv w)
  have hg := fun w => grows_hold r.st r.ow r.nm r.dl hst w
  rw [hgr] at hg
  have HG := Lib.hid hg
  have HA := Lib.hid (fun w => after_hold r.st r.ow r.nm r.dl client x.a (now + ttl) w)
  have HN := Lib.hid hn; have HR := Lib.hid hr
  have HB0 := Lib.hid (below_two w (.cells #[.int .i64 cl, .int .i64 cap] 32) (.cells (rsA 0 0 ⟨#[]⟩ 0 0 ⟨#[]⟩ 0 0) 40))
  have HC0 := Lib.hid ((Bk.new w 32 #[.int .i64 cl, .int .i64 cap]).alloc (.cells (rsA 0 0 ⟨#[]⟩ 0 0 ⟨#[]⟩ 0 0) 40))
  have HP0 := Lib.hid (bk_second w (.cells #[.int .i64 cl, .int .i64 cap] 32) 40 (rsA 0 0 ⟨#[]⟩ 0 0 ⟨#[]⟩ 0 0))
  clear hn hr hlv hst hgr hg
  rcases hcap with ⟨rfl, hcap⟩ | rfl
  all_goals
    go_enter Tryz.func87, Tryz.ntmps87
    go_wp2_with fail
    refine (mtimed_hold _).mono ?_
    rintro e w1 ⟨rfl, rfl⟩
    go_wp2_with fail
    refine (deadline_ok now ttl h0 h1 h2 _).mono ?_
    rintro e w1 ⟨rfl, rfl⟩
    go_wp2_with fail
    have HN2 := Lib.hid (HN.out.below (HB0.out.mono hB)); have HR2 := Lib.hid (HR.out.below (HB0.out.mono hB))
    generalize hw2 : (w.alloc (.cells #[.int .i64 cl, .int .i64 cap] 32)).alloc (.cells (rsA 0 0 ⟨#[]⟩ 0 0 ⟨#[]⟩ 0 0) 40) = w2 at *
    have hs2 : w.heap.size + 2 ≤ w2.heap.size := by rw [← hw2]; simp
    clear hw2 HN HR
    obtain ⟨bn, on, rfl, hbn, n0, n1, n2⟩ := nm_cells HN2.out
    obtain ⟨br, or_, rfl, hbr, r0, r1, r2, r3⟩ := rc_cells HR2.out
    have HR0 := Lib.hid r0; have HR1 := Lib.hid r1; have HRR2 := Lib.hid r2; have HR3 := Lib.hid r3
    have hbn2 : bn < w2.heap.size := by omega
    have hbr2 : br < w2.heap.size := by omega
    refine wp_loop_rounds 2 ?_
    rw [rounds_succ]
    go_wp2_with fail
    refine (HL.out _).mono ?_
    rintro e w3 ⟨rfl, hb3⟩
    have hs3 : w2.heap.size + 2 ≤ w3.heap.size := by have := hb3.size; simp at this; omega
    have hb23 := below_two w2 (.cells #[.string x.a, .string x.u, .string x.k] 127) (.cells (rcA r.st r.ow r.nm r.dl) 38)
    have HK3 := Lib.hid (((Bk.new w2 127 #[.string x.a, .string x.u, .string x.k]).alloc (.cells (rcA r.st r.ow r.nm r.dl) 38)).below hb3 (by simp; omega))
    have HQ3 := Lib.hid ((bk_second w2 (.cells #[.string x.a, .string x.u, .string x.k] 127) 38 (rcA r.st r.ow r.nm r.dl)).below hb3 (by simp))
    have hb23 := hb23.trans (hb3.mono (by simp; omega))
    have HC3 := Lib.hid (HC0.out.below hb23 HC0.out.lt)
    have HP3 := Lib.hid (HP0.out.below hb23 HP0.out.lt)
    have HB3 := Lib.hid (HB0.out.trans (hb23.mono (by omega)))
    have HBB3 := Lib.hid hb23
    clear hb3 hb23 HC0 HP0 HB0 n0 n1 n2 r0 r1 r2 r3
    have q0 : w3.cell? ⟨w2.heap.size + 1, 0, none⟩ = some (.int .i64 r.st) := HQ3.out.cell 0
    have q1 : w3.cell? ⟨w2.heap.size + 1, 1, none⟩ = some (.int .i64 r.ow) := HQ3.out.cell 1
    have q2 : w3.cell? ⟨w2.heap.size + 1, 2, none⟩ = some (.string r.nm) := HQ3.out.cell 2
    have q3 : w3.cell? ⟨w2.heap.size + 1, 3, none⟩ = some (.int .i64 r.dl) := HQ3.out.cell 3
    go_wp2_with fail
    refine (HG.out _).mono ?_
    rintro e w4 ⟨rfl, hb4⟩
    have hs4 := hb4.size
    have HK4 := Lib.hid (HK3.out.below hb4 HK3.out.lt)
    have HQ4 := Lib.hid (HQ3.out.below hb4 HQ3.out.lt)
    have HC4 := Lib.hid (HC3.out.below hb4 HC3.out.lt)
    have HP4 := Lib.hid (HP3.out.below hb4 HP3.out.lt)
    have HB4 := Lib.hid (HB3.out.trans (hb4.mono (by omega)))
    have HBB4 := Lib.hid (HBB3.out.trans (hb4.mono (by omega)))
    clear hb4 HK3 HQ3 HC3 HP3 HB3 HBB3 q0 q1 q2 q3
    have n0 : w4.cell? ⟨w2.heap.size, 0, none⟩ = some (.string x.a) := HK4.out.cell 0
    have c1 : w4.cell? ⟨w.heap.size, 1, none⟩ = some (.int .i64 cap) := HC4.out.cell 1
    have p0 : ∀ i : Nat, w4.cell? ⟨w.heap.size + 1, i, none⟩ = (rsA 0 0 ⟨#[]⟩ 0 0 ⟨#[]⟩ 0 0)[i]? := fun i => HP4.out.cell i
    have f0 : ∀ i : Nat, w4.frozen? ⟨w.heap.size + 1, i, none⟩ = false := fun i => HP4.out.frozen i
    have q0 : w4.cell? ⟨w2.heap.size + 1, 0, none⟩ = some (.int .i64 r.st) := HQ4.out.cell 0
    have q1 : w4.cell? ⟨w2.heap.size + 1, 1, none⟩ = some (.int .i64 r.ow) := HQ4.out.cell 1
    have q2 : w4.cell? ⟨w2.heap.size + 1, 2, none⟩ = some (.string r.nm) := HQ4.out.cell 2
    have q3 : w4.cell? ⟨w2.heap.size + 1, 3, none⟩ = some (.int .i64 r.dl) := HQ4.out.cell 3
    go_wp2_with fail
    refine (HA.out _).mono ?_
    rintro e w5 ⟨rfl, hb5⟩
    have hs5 := hb5.size
    have HP5 := Lib.hid (HP4.out.below hb5 HP4.out.lt)
    have HB5 := Lib.hid (HB4.out.trans (hb5.mono (by omega)))
    have HRB5 := Lib.hid ((HBB4.out.trans (hb5.mono (by omega))))
    clear hb5 HK4 HQ4 HC4 HP4 HB4 HBB4 q0 q1 q2 q3 n0 c1 p0 f0
    go_wp2_with (at_builtin; refine app_rc (by rfl) _ _ rfl (base := w.heap.size + 2) (xs := []) rfl (World.ownsRow_nil _ _ _ _) rfl (rd_one_rc (z := w5.heap.size) rfl ⟨1, client, x.a, now + ttl⟩) (by omega) (by simp; omega) ?_)
    intro A6 c6 w6 ho6 hg6 _
    have hb6' : Below w5.heap.size w5 w6 := ((Below.refl _ w5).alloc (Nat.le_refl _) _).grown hg6 (by simp) (fun q h => by cases h)
    have hb6 : Below (w.heap.size + 2) w5 w6 := hb6'.mono (by omega)
    have HRR6 := Lib.hid (HRB5.out.trans (hb6'.mono (by omega)))
    clear hb6'
    have HO6 := Lib.hid (show w6.ownsRow (w.heap.size + 2) 38 4 (.slice A6 1 c6) 1 (rcC [⟨1, client, x.a, now + ttl⟩]) from ho6)
    have HP6 := Lib.hid (HP5.out.below hb6 (by omega))
    have HB6 := Lib.hid (HB5.out.trans (hb6.mono (by omega)))
    have hs6 : w5.heap.size ≤ w6.heap.size := hb6.size
    clear ho6 hg6 HP5 HB5
    go_wp2_with fail
    rw [rounds_succ]
    have HP7 := Lib.hid (HP6.out.alloc (.cells (rsA 0 (-1) ⟨#[]⟩ 0 0 ⟨#[]⟩ 0 now) 40))
    have HB7 := Lib.hid (HB6.out.alloc (by omega) (.cells (rsA 0 (-1) ⟨#[]⟩ 0 0 ⟨#[]⟩ 0 now) 40))
    have HO7 := Lib.hid (HO6.out.alloc (.cells (rsA 0 (-1) ⟨#[]⟩ 0 0 ⟨#[]⟩ 0 now) 40))
    go_upto_region 24 with (fail)
    have HY7 := Lib.hid (Bk.new w6 40 (rsA 0 (-1) ⟨#[]⟩ 0 0 ⟨#[]⟩ 0 now))
    generalize hw7 : w6.alloc (.cells (rsA 0 (-1) ⟨#[]⟩ 0 0 ⟨#[]⟩ 0 now) 40) = w7 at *
    clear hw7 HP6 HB6 HO6
    have p0 : w7.cell? ⟨w.heap.size + 1, 0, none⟩ = some (.int .i64 0) := HP7.out.cell 0
    have f0 : w7.frozen? ⟨w.heap.size + 1, 0, none⟩ = false := HP7.out.frozen 0
    have p1 : w7.cell? ⟨w.heap.size + 1, 1, none⟩ = some (.int .i64 0) := HP7.out.cell 1
    have f1 : w7.frozen? ⟨w.heap.size + 1, 1, none⟩ = false := HP7.out.frozen 1
    have p2 : w7.cell? ⟨w.heap.size + 1, 2, none⟩ = some (.string ⟨#[]⟩) := HP7.out.cell 2
    have f2 : w7.frozen? ⟨w.heap.size + 1, 2, none⟩ = false := HP7.out.frozen 2
    have p3 : w7.cell? ⟨w.heap.size + 1, 3, none⟩ = some (.int .i64 0) := HP7.out.cell 3
    have f3 : w7.frozen? ⟨w.heap.size + 1, 3, none⟩ = false := HP7.out.frozen 3
    have p4 : w7.cell? ⟨w.heap.size + 1, 4, none⟩ = some (.int .i64 0) := HP7.out.cell 4
    have f4 : w7.frozen? ⟨w.heap.size + 1, 4, none⟩ = false := HP7.out.frozen 4
    have p5 : w7.cell? ⟨w.heap.size + 1, 5, none⟩ = some (.string ⟨#[]⟩) := HP7.out.cell 5
    have f5 : w7.frozen? ⟨w.heap.size + 1, 5, none⟩ = false := HP7.out.frozen 5
    have p6 : w7.cell? ⟨w.heap.size + 1, 6, none⟩ = some (.int .i64 0) := HP7.out.cell 6
    have f6 : w7.frozen? ⟨w.heap.size + 1, 6, none⟩ = false := HP7.out.frozen 6
    have p7 : w7.cell? ⟨w.heap.size + 1, 7, none⟩ = some (.int .i64 0) := HP7.out.cell 7
    have f7 : w7.frozen? ⟨w.heap.size + 1, 7, none⟩ = false := HP7.out.frozen 7
    have y0 : w7.cell? ⟨w6.heap.size, 0, none⟩ = some (.int .i64 0) := HY7.out.cell 0
    have y1 : w7.cell? ⟨w6.heap.size, 1, none⟩ = some (.int .i64 (-1)) := HY7.out.cell 1
    have y2 : w7.cell? ⟨w6.heap.size, 2, none⟩ = some (.string ⟨#[]⟩) := HY7.out.cell 2
    have y3 : w7.cell? ⟨w6.heap.size, 3, none⟩ = some (.int .i64 0) := HY7.out.cell 3
    have y4 : w7.cell? ⟨w6.heap.size, 4, none⟩ = some (.int .i64 0) := HY7.out.cell 4
    have y5 : w7.cell? ⟨w6.heap.size, 5, none⟩ = some (.string ⟨#[]⟩) := HY7.out.cell 5
    have y6 : w7.cell? ⟨w6.heap.size, 6, none⟩ = some (.int .i64 0) := HY7.out.cell 6
    have y7 : w7.cell? ⟨w6.heap.size, 7, none⟩ = some (.int .i64 now) := HY7.out.cell 7
    go_wp2_with fail
    exact bodyPost_ret (results_row_tmp (P := Tryz.prog) (p := 16) (u := 17) (ty := 40) rfl _ _ (w.heap.size + 1) (Rs.arr ⟨0, -1, ByteArray.empty, Rc.none, now⟩) rfl (set8 HP7.out (.int .i64 0) (.int .i64 (-1)) (.string ⟨#[]⟩) (.int .i64 0) (.int .i64 0) (.string ⟨#[]⟩) (.int .i64 0) (.int .i64 now)) Tryz.underlying40 (by kernel_rfl)) rfl
      ⟨A6, c6, rfl, own_low (own8 HO7.out (by omega) _ _ _ _ _ _ _ _) (by omega), below8 HB7.out (by omega) _ _ _ _ _ _ _ _⟩
set_option maxRecDepth 100000 in
set_option maxHeartbeats 8000000 in
theorem decide_query (cl cap count client now : Int) (x : Nm) (r : Rc) (An Ar : Option Addr) (cn_ cr B : Nat) (w : World) (hn : Rd w B 3 An 1 (nmsC [x])) (hr : Rd w B 4 Ar 1 (rcC [r])) (hB : B ≤ w.heap.size)
    (hst : r.st = 0 ∨ r.st = 1) (h0 : 0 ≤ now) (hcnt : 0 ≤ count ∧ count ≤ 1000) :
    Calls Tryz.prog 87 #[.agg #[.int .i64 cl, .int .i64 cap], .int .i64 count, .int .i64 client, .int .i64 7, .int .i64 0, .slice An 1 cn_, .slice Ar 1 cr, .int .i64 now] w (RetDec ⟨0, -1, ByteArray.empty, if r.live now then r else Rc.none, now⟩ [r] w) := by
  have HL := Lib.hid (fun w => test_query r.st r.ow r.nm r.dl client now w)
  have HG := Lib.hid (fun w => grows_query r.st r.ow r.nm r.dl w)
  have HA := Lib.hid (fun w => after_query r.st r.ow r.nm r.dl client x.a 0 w)
  have HLV := Lib.hid (show ∀ w, Calls Tryz.prog 122 #[.agg (rcA r.st r.ow r.nm r.dl), .int .i64 now] w fun e w' => e = .returned (.bool (r.live now)) ∧ Below w.heap.size w w' from fun w => live_any r.st r.ow r.nm r.dl now hst w)
  generalize hrr : (if r.live now then r else Rc.none) = rr at *
  have HRR := Lib.hid hrr
  clear hrr
  have HN := Lib.hid hn; have HR := Lib.hid hr
  have HB0 := Lib.hid (below_two w (.cells #[.int .i64 cl, .int .i64 cap] 32) (.cells (rsA 0 0 ⟨#[]⟩ 0 0 ⟨#[]⟩ 0 0) 40))
  have HC0 := Lib.hid ((Bk.new w 32 #[.int .i64 cl, .int .i64 cap]).alloc (.cells (rsA 0 0 ⟨#[]⟩ 0 0 ⟨#[]⟩ 0 0) 40))
  have HP0 := Lib.hid (bk_second w (.cells #[.int .i64 cl, .int .i64 cap] 32) 40 (rsA 0 0 ⟨#[]⟩ 0 0 ⟨#[]⟩ 0 0))
  clear hn hr hst
  all_goals
    go_enter Tryz.func87, Tryz.ntmps87
    go_wp2_with fail
    refine (mtimed_query _).mono ?_
    rintro e w1 ⟨rfl, rfl⟩
    go_wp2_with fail
    have HN2 := Lib.hid (HN.out.below (HB0.out.mono hB)); have HR2 := Lib.hid (HR.out.below (HB0.out.mono hB))
    generalize hw2 : (w.alloc (.cells #[.int .i64 cl, .int .i64 cap] 32)).alloc (.cells (rsA 0 0 ⟨#[]⟩ 0 0 ⟨#[]⟩ 0 0) 40) = w2 at *
    have hs2 : w.heap.size + 2 ≤ w2.heap.size := by rw [← hw2]; simp
    clear hw2 HN HR
    obtain ⟨bn, on, rfl, hbn, n0, n1, n2⟩ := nm_cells HN2.out
    obtain ⟨br, or_, rfl, hbr, r0, r1, r2, r3⟩ := rc_cells HR2.out
    have HR0 := Lib.hid r0; have HR1 := Lib.hid r1; have HRR2 := Lib.hid r2; have HR3 := Lib.hid r3
    have hbn2 : bn < w2.heap.size := by omega
    have hbr2 : br < w2.heap.size := by omega
    refine wp_loop_rounds 2 ?_
    rw [rounds_succ]
    go_wp2_with fail
    refine (HL.out _).mono ?_
    rintro e w3 ⟨rfl, hb3⟩
    have hs3 : w2.heap.size + 2 ≤ w3.heap.size := by have := hb3.size; simp at this; omega
    have hb23 := below_two w2 (.cells #[.string x.a, .string x.u, .string x.k] 127) (.cells (rcA r.st r.ow r.nm r.dl) 38)
    have HK3 := Lib.hid (((Bk.new w2 127 #[.string x.a, .string x.u, .string x.k]).alloc (.cells (rcA r.st r.ow r.nm r.dl) 38)).below hb3 (by simp; omega))
    have HQ3 := Lib.hid ((bk_second w2 (.cells #[.string x.a, .string x.u, .string x.k] 127) 38 (rcA r.st r.ow r.nm r.dl)).below hb3 (by simp))
    have hb23 := hb23.trans (hb3.mono (by simp; omega))
    have HC3 := Lib.hid (HC0.out.below hb23 HC0.out.lt)
    have HP3 := Lib.hid (HP0.out.below hb23 HP0.out.lt)
    have HB3 := Lib.hid (HB0.out.trans (hb23.mono (by omega)))
    have HBB3 := Lib.hid hb23
    clear hb3 hb23 HC0 HP0 HB0 n0 n1 n2 r0 r1 r2 r3
    have q0 : w3.cell? ⟨w2.heap.size + 1, 0, none⟩ = some (.int .i64 r.st) := HQ3.out.cell 0
    have q1 : w3.cell? ⟨w2.heap.size + 1, 1, none⟩ = some (.int .i64 r.ow) := HQ3.out.cell 1
    have q2 : w3.cell? ⟨w2.heap.size + 1, 2, none⟩ = some (.string r.nm) := HQ3.out.cell 2
    have q3 : w3.cell? ⟨w2.heap.size + 1, 3, none⟩ = some (.int .i64 r.dl) := HQ3.out.cell 3
    go_wp2_with fail
    refine (HG.out _).mono ?_
    rintro e w4 ⟨rfl, hb4⟩
    have hs4 := hb4.size
    have HK4 := Lib.hid (HK3.out.below hb4 HK3.out.lt)
    have HQ4 := Lib.hid (HQ3.out.below hb4 HQ3.out.lt)
    have HC4 := Lib.hid (HC3.out.below hb4 HC3.out.lt)
    have HP4 := Lib.hid (HP3.out.below hb4 HP3.out.lt)
    have HB4 := Lib.hid (HB3.out.trans (hb4.mono (by omega)))
    have HBB4 := Lib.hid (HBB3.out.trans (hb4.mono (by omega)))
    clear hb4 HK3 HQ3 HC3 HP3 HB3 HBB3 q0 q1 q2 q3
    have n0 : w4.cell? ⟨w2.heap.size, 0, none⟩ = some (.string x.a) := HK4.out.cell 0
    have c1 : w4.cell? ⟨w.heap.size, 1, none⟩ = some (.int .i64 cap) := HC4.out.cell 1
    have p0 : ∀ i : Nat, w4.cell? ⟨w.heap.size + 1, i, none⟩ = (rsA 0 0 ⟨#[]⟩ 0 0 ⟨#[]⟩ 0 0)[i]? := fun i => HP4.out.cell i
    have f0 : ∀ i : Nat, w4.frozen? ⟨w.heap.size + 1, i, none⟩ = false := fun i => HP4.out.frozen i
    have q0 : w4.cell? ⟨w2.heap.size + 1, 0, none⟩ = some (.int .i64 r.st) := HQ4.out.cell 0
    have q1 : w4.cell? ⟨w2.heap.size + 1, 1, none⟩ = some (.int .i64 r.ow) := HQ4.out.cell 1
    have q2 : w4.cell? ⟨w2.heap.size + 1, 2, none⟩ = some (.string r.nm) := HQ4.out.cell 2
    have q3 : w4.cell? ⟨w2.heap.size + 1, 3, none⟩ = some (.int .i64 r.dl) := HQ4.out.cell 3
    go_wp2_with fail
    refine (HA.out _).mono ?_
    rintro e w5 ⟨rfl, hb5⟩
    have hs5 := hb5.size
    have HP5 := Lib.hid (HP4.out.below hb5 HP4.out.lt)
    have HB5 := Lib.hid (HB4.out.trans (hb5.mono (by omega)))
    have HRB5 := Lib.hid ((HBB4.out.trans (hb5.mono (by omega))))
    clear hb5 HK4 HQ4 HC4 HP4 HB4 HBB4 q0 q1 q2 q3 n0 c1 p0 f0
    go_wp2_with (at_builtin; refine app_rc (by rfl) _ _ rfl (base := w.heap.size + 2) (xs := []) rfl (World.ownsRow_nil _ _ _ _) rfl (rd_one_rc (z := w5.heap.size) rfl r) (by omega) (by simp; omega) ?_)
    intro A6 c6 w6 ho6 hg6 _
    have hb6' : Below w5.heap.size w5 w6 := ((Below.refl _ w5).alloc (Nat.le_refl _) _).grown hg6 (by simp) (fun q h => by cases h)
    have hb6 : Below (w.heap.size + 2) w5 w6 := hb6'.mono (by omega)
    have HRR6 := Lib.hid (HRB5.out.trans (hb6'.mono (by omega)))
    clear hb6'
    have HO6 := Lib.hid (show w6.ownsRow (w.heap.size + 2) 38 4 (.slice A6 1 c6) 1 (rcC [r]) from ho6)
    have HP6 := Lib.hid (HP5.out.below hb6 (by omega))
    have HB6 := Lib.hid (HB5.out.trans (hb6.mono (by omega)))
    have hs6 : w5.heap.size ≤ w6.heap.size := hb6.size
    clear ho6 hg6 HP5 HB5
    go_wp2_with fail
    rw [rounds_succ]
    go_upto_region 22 with (fail)
    have HY7 := Lib.hid (Bk.new w6 40 (rsA 0 (-1) ⟨#[]⟩ 0 0 ⟨#[]⟩ 0 now))
    have HP7 := Lib.hid (HP6.out.alloc (.cells (rsA 0 (-1) ⟨#[]⟩ 0 0 ⟨#[]⟩ 0 now) 40))
    have HB7 := Lib.hid (HB6.out.alloc (by omega) (.cells (rsA 0 (-1) ⟨#[]⟩ 0 0 ⟨#[]⟩ 0 now) 40))
    have HO7 := Lib.hid (HO6.out.alloc (.cells (rsA 0 (-1) ⟨#[]⟩ 0 0 ⟨#[]⟩ 0 now) 40))
    have HRR7 := Lib.hid (HRR6.out.alloc (by omega) (.cells (rsA 0 (-1) ⟨#[]⟩ 0 0 ⟨#[]⟩ 0 now) 40))
    generalize hw7 : w6.alloc (.cells (rsA 0 (-1) ⟨#[]⟩ 0 0 ⟨#[]⟩ 0 now) 40) = w7 at *
    have hs7 : w6.heap.size < w7.heap.size := by rw [← hw7]; simp
    have HQ6 := Lib.hid (fun q h => (HO6.out.lt q h).2)
    clear hw7 HP6 HB6 HO6 HRR6
    have z0 : w7.cell? ⟨br, or_, none⟩ = some (.int .i64 r.st) := (HRR7.out.cell (p := ⟨br, or_, none⟩) hbr2).trans HR0.out
    have z1 : w7.cell? ⟨br, or_ + 1, none⟩ = some (.int .i64 r.ow) := (HRR7.out.cell (p := ⟨br, or_ + 1, none⟩) hbr2).trans HR1.out
    have z2 : w7.cell? ⟨br, or_ + 2, none⟩ = some (.string r.nm) := (HRR7.out.cell (p := ⟨br, or_ + 2, none⟩) hbr2).trans HRR2.out
    have z3 : w7.cell? ⟨br, or_ + 3, none⟩ = some (.int .i64 r.dl) := (HRR7.out.cell (p := ⟨br, or_ + 3, none⟩) hbr2).trans HR3.out
    go_wp2_with fail
    refine (HLV.out _).mono ?_
    rintro e w8 ⟨rfl, hb8⟩
    have HY8 := Lib.hid (HY7.out.below hb8 HY7.out.lt)
    have HP8 := Lib.hid (HP7.out.below hb8 HP7.out.lt)
    have HB8 := Lib.hid (HB7.out.trans (hb8.mono (by omega)))
    have HO8 := Lib.hid (own_past HO7.out hb8)
    have hs8 : w7.heap.size ≤ w8.heap.size := hb8.size
    have hbr7 : br < w7.heap.size := by omega
    have z0 : w8.cell? ⟨br, or_, none⟩ = some (.int .i64 r.st) := (hb8.cell (p := ⟨br, or_, none⟩) hbr7).trans z0
    have z1 : w8.cell? ⟨br, or_ + 1, none⟩ = some (.int .i64 r.ow) := (hb8.cell (p := ⟨br, or_ + 1, none⟩) hbr7).trans z1
    have z2 : w8.cell? ⟨br, or_ + 2, none⟩ = some (.string r.nm) := (hb8.cell (p := ⟨br, or_ + 2, none⟩) hbr7).trans z2
    have z3 : w8.cell? ⟨br, or_ + 3, none⟩ = some (.int .i64 r.dl) := (hb8.cell (p := ⟨br, or_ + 3, none⟩) hbr7).trans z3
    clear hb8 HY7 HP7 HB7 HO7
    cases hlv : r.live now
    · have hrr := HRR.out
      rw [hlv] at hrr
      have hrr : Rc.none = rr := hrr
      subst hrr
      clear hlv HLV HL HG HA
      have p0 : w8.cell? ⟨w.heap.size + 1, 0, none⟩ = some (.int .i64 0) := HP8.out.cell 0
      have f0 : w8.frozen? ⟨w.heap.size + 1, 0, none⟩ = false := HP8.out.frozen 0
      have p1 : w8.cell? ⟨w.heap.size + 1, 1, none⟩ = some (.int .i64 0) := HP8.out.cell 1
      have f1 : w8.frozen? ⟨w.heap.size + 1, 1, none⟩ = false := HP8.out.frozen 1
      have p2 : w8.cell? ⟨w.heap.size + 1, 2, none⟩ = some (.string ⟨#[]⟩) := HP8.out.cell 2
      have f2 : w8.frozen? ⟨w.heap.size + 1, 2, none⟩ = false := HP8.out.frozen 2
      have p3 : w8.cell? ⟨w.heap.size + 1, 3, none⟩ = some (.int .i64 0) := HP8.out.cell 3
      have f3 : w8.frozen? ⟨w.heap.size + 1, 3, none⟩ = false := HP8.out.frozen 3
      have p4 : w8.cell? ⟨w.heap.size + 1, 4, none⟩ = some (.int .i64 0) := HP8.out.cell 4
      have f4 : w8.frozen? ⟨w.heap.size + 1, 4, none⟩ = false := HP8.out.frozen 4
      have p5 : w8.cell? ⟨w.heap.size + 1, 5, none⟩ = some (.string ⟨#[]⟩) := HP8.out.cell 5
      have f5 : w8.frozen? ⟨w.heap.size + 1, 5, none⟩ = false := HP8.out.frozen 5
      have p6 : w8.cell? ⟨w.heap.size + 1, 6, none⟩ = some (.int .i64 0) := HP8.out.cell 6
      have f6 : w8.frozen? ⟨w.heap.size + 1, 6, none⟩ = false := HP8.out.frozen 6
      have p7 : w8.cell? ⟨w.heap.size + 1, 7, none⟩ = some (.int .i64 0) := HP8.out.cell 7
      have f7 : w8.frozen? ⟨w.heap.size + 1, 7, none⟩ = false := HP8.out.frozen 7
      have y0 : w8.cell? ⟨w6.heap.size, 0, none⟩ = some (.int .i64 0) := HY8.out.cell 0
      have y1 : w8.cell? ⟨w6.heap.size, 1, none⟩ = some (.int .i64 (-1)) := HY8.out.cell 1
      have y2 : w8.cell? ⟨w6.heap.size, 2, none⟩ = some (.string ⟨#[]⟩) := HY8.out.cell 2
      have y3 : w8.cell? ⟨w6.heap.size, 3, none⟩ = some (.int .i64 0) := HY8.out.cell 3
      have y4 : w8.cell? ⟨w6.heap.size, 4, none⟩ = some (.int .i64 0) := HY8.out.cell 4
      have y5 : w8.cell? ⟨w6.heap.size, 5, none⟩ = some (.string ⟨#[]⟩) := HY8.out.cell 5
      have y6 : w8.cell? ⟨w6.heap.size, 6, none⟩ = some (.int .i64 0) := HY8.out.cell 6
      have y7 : w8.cell? ⟨w6.heap.size, 7, none⟩ = some (.int .i64 now) := HY8.out.cell 7
      go_wp2_with fail
      exact bodyPost_ret (results_row_tmp (P := Tryz.prog) (p := 16) (u := 17) (ty := 40) rfl _ _ (w.heap.size + 1) (Rs.arr ⟨0, -1, ByteArray.empty, Rc.none, now⟩) rfl (set8 HP8.out (.int .i64 0) (.int .i64 (-1)) (.string ⟨#[]⟩) (.int .i64 0) (.int .i64 0) (.string ⟨#[]⟩) (.int .i64 0) (.int .i64 now)) Tryz.underlying40 (by kernel_rfl)) rfl
        ⟨A6, c6, rfl, own_low (own8 HO8.out (by omega) _ _ _ _ _ _ _ _) (by omega), below8 HB8.out (by omega) _ _ _ _ _ _ _ _⟩
    · have hrr := HRR.out
      rw [hlv] at hrr
      have hrr : r = rr := hrr
      subst hrr
      have g3 : w8.frozen? ⟨w6.heap.size, 3, none⟩ = false := HY8.out.frozen 3
      have g4 : w8.frozen? ⟨w6.heap.size, 4, none⟩ = false := HY8.out.frozen 4
      have g5 : w8.frozen? ⟨w6.heap.size, 5, none⟩ = false := HY8.out.frozen 5
      have g6 : w8.frozen? ⟨w6.heap.size, 6, none⟩ = false := HY8.out.frozen 6
      clear hlv HLV HL HG HA
      have y0 : w8.cell? ⟨w6.heap.size, 0, none⟩ = some (.int .i64 0) := HY8.out.cell 0
      have y1 : w8.cell? ⟨w6.heap.size, 1, none⟩ = some (.int .i64 (-1)) := HY8.out.cell 1
      have y2 : w8.cell? ⟨w6.heap.size, 2, none⟩ = some (.string ⟨#[]⟩) := HY8.out.cell 2
      have y3 : w8.cell? ⟨w6.heap.size, 3, none⟩ = some (.int .i64 0) := HY8.out.cell 3
      have y4 : w8.cell? ⟨w6.heap.size, 4, none⟩ = some (.int .i64 0) := HY8.out.cell 4
      have y5 : w8.cell? ⟨w6.heap.size, 5, none⟩ = some (.string ⟨#[]⟩) := HY8.out.cell 5
      have y6 : w8.cell? ⟨w6.heap.size, 6, none⟩ = some (.int .i64 0) := HY8.out.cell 6
      have y7 : w8.cell? ⟨w6.heap.size, 7, none⟩ = some (.int .i64 now) := HY8.out.cell 7
      go_upto_region 24 with (fail)
      have HY9 := Lib.hid (mid4 HY8.out (.int .i64 r.st) (.int .i64 r.ow) (.string r.nm) (.int .i64 r.dl))
      have HP9 := Lib.hid ((((HP8.out.far (p := ⟨w6.heap.size, 3, none⟩) (by show w.heap.size + 1 ≠ w6.heap.size; omega) (.int .i64 r.st)).far (p := ⟨w6.heap.size, 4, none⟩) (by show w.heap.size + 1 ≠ w6.heap.size; omega) (.int .i64 r.ow)).far (p := ⟨w6.heap.size, 5, none⟩) (by show w.heap.size + 1 ≠ w6.heap.size; omega) (.string r.nm)).far (p := ⟨w6.heap.size, 6, none⟩) (by show w.heap.size + 1 ≠ w6.heap.size; omega) (.int .i64 r.dl))
      have HB9 := Lib.hid ((((HB8.out.setCell (p := ⟨w6.heap.size, 3, none⟩) (by show w.heap.size ≤ w6.heap.size; omega) (.int .i64 r.st)).setCell (p := ⟨w6.heap.size, 4, none⟩) (by show w.heap.size ≤ w6.heap.size; omega) (.int .i64 r.ow)).setCell (p := ⟨w6.heap.size, 5, none⟩) (by show w.heap.size ≤ w6.heap.size; omega) (.string r.nm)).setCell (p := ⟨w6.heap.size, 6, none⟩) (by show w.heap.size ≤ w6.heap.size; omega) (.int .i64 r.dl))
      have HO9 := Lib.hid (HO8.out.kept (only_setCell (only_setCell (only_setCell (only_setCell (only_refl w8 (some w6.heap.size)) (p := ⟨w6.heap.size, 3, none⟩) (.inl rfl) (.int .i64 r.st)) (p := ⟨w6.heap.size, 4, none⟩) (.inl rfl) (.int .i64 r.ow)) (p := ⟨w6.heap.size, 5, none⟩) (.inl rfl) (.string r.nm)) (p := ⟨w6.heap.size, 6, none⟩) (.inl rfl) (.int .i64 r.dl)) (.inr fun e => absurd (HQ6.out _ e) (by omega)))
      clear y0 y1 y2 y3 y4 y5 y6 y7 g3 g4 g5 g6 z0 z1 z2 z3
      generalize hw9 : ((((w8.setCell ⟨w6.heap.size, 3, none⟩ (.int .i64 r.st)).setCell ⟨w6.heap.size, 4, none⟩ (.int .i64 r.ow)).setCell ⟨w6.heap.size, 5, none⟩ (.string r.nm)).setCell ⟨w6.heap.size, 6, none⟩ (.int .i64 r.dl)) = w9 at *
      clear hw9
      have p0 : w9.cell? ⟨w.heap.size + 1, 0, none⟩ = some (.int .i64 0) := HP9.out.cell 0
      have f0 : w9.frozen? ⟨w.heap.size + 1, 0, none⟩ = false := HP9.out.frozen 0
      have p1 : w9.cell? ⟨w.heap.size + 1, 1, none⟩ = some (.int .i64 0) := HP9.out.cell 1
      have f1 : w9.frozen? ⟨w.heap.size + 1, 1, none⟩ = false := HP9.out.frozen 1
      have p2 : w9.cell? ⟨w.heap.size + 1, 2, none⟩ = some (.string ⟨#[]⟩) := HP9.out.cell 2
      have f2 : w9.frozen? ⟨w.heap.size + 1, 2, none⟩ = false := HP9.out.frozen 2
      have p3 : w9.cell? ⟨w.heap.size + 1, 3, none⟩ = some (.int .i64 0) := HP9.out.cell 3
      have f3 : w9.frozen? ⟨w.heap.size + 1, 3, none⟩ = false := HP9.out.frozen 3
      have p4 : w9.cell? ⟨w.heap.size + 1, 4, none⟩ = some (.int .i64 0) := HP9.out.cell 4
      have f4 : w9.frozen? ⟨w.heap.size + 1, 4, none⟩ = false := HP9.out.frozen 4
      have p5 : w9.cell? ⟨w.heap.size + 1, 5, none⟩ = some (.string ⟨#[]⟩) := HP9.out.cell 5
      have f5 : w9.frozen? ⟨w.heap.size + 1, 5, none⟩ = false := HP9.out.frozen 5
      have p6 : w9.cell? ⟨w.heap.size + 1, 6, none⟩ = some (.int .i64 0) := HP9.out.cell 6
      have f6 : w9.frozen? ⟨w.heap.size + 1, 6, none⟩ = false := HP9.out.frozen 6
      have p7 : w9.cell? ⟨w.heap.size + 1, 7, none⟩ = some (.int .i64 0) := HP9.out.cell 7
      have f7 : w9.frozen? ⟨w.heap.size + 1, 7, none⟩ = false := HP9.out.frozen 7
      have y0 : w9.cell? ⟨w6.heap.size, 0, none⟩ = some (.int .i64 0) := HY9.out.cell 0
      have y1 : w9.cell? ⟨w6.heap.size, 1, none⟩ = some (.int .i64 (-1)) := HY9.out.cell 1
      have y2 : w9.cell? ⟨w6.heap.size, 2, none⟩ = some (.string ⟨#[]⟩) := HY9.out.cell 2
      have y3 : w9.cell? ⟨w6.heap.size, 3, none⟩ = some (.int .i64 r.st) := HY9.out.cell 3
      have y4 : w9.cell? ⟨w6.heap.size, 4, none⟩ = some (.int .i64 r.ow) := HY9.out.cell 4
      have y5 : w9.cell? ⟨w6.heap.size, 5, none⟩ = some (.string r.nm) := HY9.out.cell 5
      have y6 : w9.cell? ⟨w6.heap.size, 6, none⟩ = some (.int .i64 r.dl) := HY9.out.cell 6
      have y7 : w9.cell? ⟨w6.heap.size, 7, none⟩ = some (.int .i64 now) := HY9.out.cell 7
      go_wp2_with fail
      exact bodyPost_ret (results_row_tmp (P := Tryz.prog) (p := 16) (u := 17) (ty := 40) rfl _ _ (w.heap.size + 1) (Rs.arr ⟨0, -1, ByteArray.empty, r, now⟩) rfl (set8 HP9.out (.int .i64 0) (.int .i64 (-1)) (.string ⟨#[]⟩) (.int .i64 r.st) (.int .i64 r.ow) (.string r.nm) (.int .i64 r.dl) (.int .i64 now)) Tryz.underlying40 (by kernel_rfl)) rfl
        ⟨A6, c6, rfl, own_low (own8 HO9.out (by omega) _ _ _ _ _ _ _ _) (by omega), below8 HB9.out (by omega) _ _ _ _ _ _ _ _⟩
end Go.Proofs.YtddieenjdaociaaGreatDoor
