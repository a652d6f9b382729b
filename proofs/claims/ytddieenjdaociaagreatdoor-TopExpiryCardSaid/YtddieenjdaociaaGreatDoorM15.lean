/- store.Get, insert, record.Check. store.Put of a record that is held. record.Test, Grows, After at Hold and Query; model.timed. -/
import Derived.Test.YtddieenjdaociaaGreatDoorM14
namespace Go.Proofs.YtddieenjdaociaaGreatDoor
open Go Go.RowKit Go.Shelf
set_option linter.unusedVariables false

section
variable {w w' : World} {g ss sr n u : Nat} {S S' : List Slt} {R : List Rc}
theorem StAt.below {B : Nat} (h : StAt w g ss sr n S R u) (hb : Below B w w') (hB : w.heap.size ≤ B) : StAt w' g ss sr n S R u :=
  ⟨h.k.below hb (by have := h.k.lt; omega), h.s.below hb (by have := h.s.lt; omega), h.r.below hb (by have := h.r.lt; omega), h.ns, h.nr, h.d1, h.d2, h.d3⟩
theorem StAt.drewN (h : StAt w g ss sr n S R u) (m : Nat) : StAt (w.drewN m) g ss sr n S R u := ⟨h.k, h.s, h.r, h.ns, h.nr, h.d1, h.d2, h.d3⟩
theorem StAt.drew (h : StAt w g ss sr n S R u) : StAt w.drew g ss sr n S R u := ⟨h.k, h.s, h.r, h.ns, h.nr, h.d1, h.d2, h.d3⟩
theorem StAt.used (h : StAt w g ss sr n S R u) (x : Int) (u' : Nat) (hx : x = (u' : Int)) : StAt (w.setCell ⟨g, 2, none⟩ (.int .i64 x)) g ss sr n S R u' := by
  subst hx
  exact ⟨h.k.set_ 2 _, h.s.far (by show ss ≠ g; exact h.d1.symm) _, h.r.far (by show sr ≠ g; exact h.d2.symm) _, h.ns, h.nr, h.d1, h.d2, h.d3⟩
theorem StAt.slot (h : StAt w g ss sr n S R u) (i : Nat) (s : Slt) : StAt ((w.setCell ⟨ss, i * 2, none⟩ (.bool s.u)).setCell ⟨ss, i * 2 + 1, none⟩ (.string s.k)) g ss sr n (S.set i s) R u :=
  ⟨(h.k.far (by show g ≠ ss; exact h.d1) _).far (by show g ≠ ss; exact h.d1) _, h.s.set i s, (h.r.far (by show sr ≠ ss; exact h.d3.symm) _).far (by show sr ≠ ss; exact h.d3.symm) _, by rw [List.length_set]; exact h.ns, h.nr, h.d1, h.d2, h.d3⟩
theorem StAt.rec_ (h : StAt w g ss sr n S R u) (i : Nat) (r : Rc) : StAt ((((w.setCell ⟨sr, i * 4, none⟩ (.int .i64 r.st)).setCell ⟨sr, i * 4 + 1, none⟩ (.int .i64 r.ow)).setCell ⟨sr, i * 4 + 2, none⟩ (.string r.nm)).setCell ⟨sr, i * 4 + 3, none⟩ (.int .i64 r.dl)) g ss sr n S (R.set i r) u :=
  ⟨(((h.k.far (by show g ≠ sr; exact h.d2) _).far (by show g ≠ sr; exact h.d2) _).far (by show g ≠ sr; exact h.d2) _).far (by show g ≠ sr; exact h.d2) _,
   (((h.s.far (by show ss ≠ sr; exact h.d3) _).far (by show ss ≠ sr; exact h.d3) _).far (by show ss ≠ sr; exact h.d3) _).far (by show ss ≠ sr; exact h.d3) _, h.r.set i r, h.ns, by rw [List.length_set]; exact h.nr, h.d1, h.d2, h.d3⟩
end
/-- The record of a key. -/
def getS (S : List Slt) (R : List Rc) (key : ByteArray) : Rc := if (findS S key).2 then R.getD (findS S key).1 Rc.none else Rc.none
def Rc.arr (r : Rc) : Array Value := rcA r.st r.ow r.nm r.dl
theorem probe_lt {S : List Slt} {key : ByteArray} (hn : 0 < S.length) : ∀ (f i : Nat), i < S.length → (probe S key f i).1 < S.length := by
  intro f
  induction f with
  | zero => intro i hi; exact hi
  | succ f ih =>
    intro i hi
    unfold probe
    rw [List.getElem?_eq_getElem hi]
    dsimp only
    split
    · split
      · exact hi
      · exact ih _ (Nat.mod_lt _ hn)
    · exact hi
theorem findS_lt {S : List Slt} {key : ByteArray} (hn : 0 < S.length) : (findS S key).1 < S.length := probe_lt hn _ _ (homeS_lt _ _ hn)
set_option maxRecDepth 100000 in
set_option maxHeartbeats 4000000 in
theorem get_any (g ss sr n u : Nat) (S : List Slt) (R : List Rc) (key : ByteArray) (w : World) (h : StAt w g ss sr n S R u) (hn0 : 0 < n) (hn : n ≤ 100000) (hk : key.size ≤ 1000000)
    (z : Nat) (hz : z < n) (hfree : ∀ s, S[z]? = some s → s.u = false) :
    Calls Tryz.prog 54 #[.pointer (some ⟨g, 0, none⟩), .string key] w fun e w' => e = .returned (.agg (getS S R key).arr) ∧ Below w.heap.size w w' := by
  have HF := Lib.hid (fun w hS => find_any ss n n S key w hS h.ns hn0 hn hk z hz hfree)
  have hat : (findS S key).1 < n := by have := findS_lt (S := S) (key := key) (by rw [h.ns]; exact hn0); rw [h.ns] at this; exact this
  have hgs : getS S R key = if (findS S key).2 then R.getD (findS S key).1 Rc.none else Rc.none := rfl
  rw [hgs]
  generalize (findS S key).1 = at_ at *
  generalize (findS S key).2 = ok at *
  have HS := Lib.hid (show StAt (w.alloc (.cells (rcA 0 0 ⟨#[]⟩ 0) 38)) g ss sr n S R u from h.below (((Below.refl w.heap.size w)).alloc (Nat.le_refl _) _) (Nat.le_refl _))
  have HBX := Lib.hid (Bk.new w 38 (rcA 0 0 ⟨#[]⟩ 0))
  have HB1 := Lib.hid ((Below.refl w.heap.size w).alloc (Nat.le_refl _) (.cells (rcA 0 0 ⟨#[]⟩ 0) 38))
  have hgw : g < w.heap.size := h.k.lt
  have hsw : sr < w.heap.size := h.r.lt
  have k0 : (w.alloc (.cells (rcA 0 0 ⟨#[]⟩ 0) 38)).cell? ⟨g, 0, none⟩ = some (.slice (some ⟨ss, 0, none⟩) n n) := HS.out.k.cell 0
  clear hfree h hgs
  go_enter Tryz.func54, Tryz.ntmps54
  go_wp2_with fail
  refine (HF.out _ HS.out.s).mono ?_
  rintro e w2 ⟨rfl, hb2⟩
  have HS2 := Lib.hid (HS.out.below hb2 (Nat.le_refl _))
  have HBX2 := Lib.hid (HBX.out.below hb2 HBX.out.lt)
  have HB2 := Lib.hid (HB1.out.trans (hb2.mono (by simp)))
  have hs2 : w.heap.size + 1 ≤ w2.heap.size := by have := hb2.size; simp at this; omega
  clear hb2 k0
  have y0 : w2.cell? ⟨w.heap.size, 0, none⟩ = some (.int .i64 0) := HBX2.out.cell 0
  have y1 : w2.cell? ⟨w.heap.size, 1, none⟩ = some (.int .i64 0) := HBX2.out.cell 1
  have y2 : w2.cell? ⟨w.heap.size, 2, none⟩ = some (.string ⟨#[]⟩) := HBX2.out.cell 2
  have y3 : w2.cell? ⟨w.heap.size, 3, none⟩ = some (.int .i64 0) := HBX2.out.cell 3
  have f0 : ∀ i : Nat, w2.frozen? ⟨w.heap.size, i, none⟩ = false := fun i => HBX2.out.frozen i
  have hbl := fun (v0 v1 v2 v3 : Value) => (((HB2.out.setCell (p := ⟨w.heap.size, 0, none⟩) (Nat.le_refl _) v0).setCell (p := ⟨w.heap.size, 1, none⟩) (Nat.le_refl _) v1).setCell (p := ⟨w.heap.size, 2, none⟩) (Nat.le_refl _) v2).setCell (p := ⟨w.heap.size, 3, none⟩) (Nat.le_refl _) v3
  have hbk : ∀ (a b : Int) (s : ByteArray) (d : Int), Bk ((((w2.setCell ⟨w.heap.size, 0, none⟩ (.int .i64 a)).setCell ⟨w.heap.size, 1, none⟩ (.int .i64 b)).setCell ⟨w.heap.size, 2, none⟩ (.string s)).setCell ⟨w.heap.size, 3, none⟩ (.int .i64 d)) w.heap.size 38 (rcA a b s d) := fun a b s d =>
    (((HBX2.out.set_ 0 (.int .i64 a)).set_ 1 (.int .i64 b)).set_ 2 (.string s)).set_ 3 (.int .i64 d)
  have HBL := Lib.hid hbl; have HBK := Lib.hid hbk
  clear hbl hbk
  cases ok
  · go_wp2_with fail
    exact bodyPost_ret (results_cell_row (P := Tryz.prog) (p := 4) (ty := 38) rfl _ _ w.heap.size _ _ _ _ rfl (HBK.out 0 0 ⟨#[]⟩ 0) Tryz.underlying38 rfl (by kernel_rfl)) rfl ⟨rfl, HBL.out _ _ _ _⟩
  · obtain ⟨r, hr⟩ : ∃ r, R[at_]? = some r := ⟨_, List.getElem?_eq_getElem (by rw [HS.out.nr]; exact hat)⟩
    obtain ⟨r0, r1, r2, r3⟩ := HS2.out.r.cell hr
    have k1 : w2.cell? ⟨g, 1, none⟩ = some (.slice (some ⟨sr, 0, none⟩) n n) := HS2.out.k.cell 1
    have HR := Lib.hid (show (R[at_]?).getD Rc.none = r by rw [hr]; rfl)
    clear hr
    go_wp2_with fail
    exact bodyPost_ret (results_cell_row (P := Tryz.prog) (p := 4) (ty := 38) rfl _ _ w.heap.size _ _ _ _ rfl (HBK.out r.st r.ow r.nm r.dl) Tryz.underlying38 rfl (by kernel_rfl)) rfl ⟨by rw [HR.out]; rfl, HBL.out _ _ _ _⟩
set_option maxRecDepth 100000 in
set_option maxHeartbeats 4000000 in
theorem insert_new (g ss sr n u at_ : Nat) (S : List Slt) (R : List Rc) (key : ByteArray) (r : Rc) (w : World) (h : StAt w g ss sr n S R u) (hn0 : 0 < n) (hn : n ≤ 100000) (hk : key.size ≤ 1000000) (hu : u ≤ 1000000)
    (z : Nat) (hz : z < n) (hfree : ∀ s, S[z]? = some s → s.u = false) (hf : findS S key = (at_, false)) (hat : at_ < n) :
    Calls Tryz.prog 94 #[.pointer (some ⟨g, 0, none⟩), .string key, .agg r.arr] w fun e w' => e = .returned (.tuple #[]) ∧ StAt w' g ss sr n (S.set at_ ⟨true, key⟩) (R.set at_ r) (u + 1) ∧ Oth [g, ss, sr] w w' := by
  have HF := Lib.hid (fun w hS => find_any ss n n S key w hS h.ns hn0 hn hk z hz hfree)
  rw [hf] at HF
  obtain ⟨a, b, q, d⟩ := r
  show Calls Tryz.prog 94 #[.pointer (some ⟨g, 0, none⟩), .string key, .agg (rcA a b q d)] w _
  have HS := Lib.hid (show StAt (w.alloc (.cells (rcA a b q d) 38)) g ss sr n S R u from h.below (((Below.refl w.heap.size w)).alloc (Nat.le_refl _) _) (Nat.le_refl _))
  have HBX := Lib.hid (Bk.new w 38 (rcA a b q d))
  have HO1 := Lib.hid ((Oth.refl [g, ss, sr] w).alloc (.cells (rcA a b q d) 38))
  have hgw : g < w.heap.size := h.k.lt
  have hsw : sr < w.heap.size := h.r.lt
  have hssw : ss < w.heap.size := h.s.lt
  have k0 : (w.alloc (.cells (rcA a b q d) 38)).cell? ⟨g, 0, none⟩ = some (.slice (some ⟨ss, 0, none⟩) n n) := HS.out.k.cell 0
  clear hfree hf h
  go_enter Tryz.func94, Tryz.ntmps94
  go_wp2_with fail
  refine (HF.out _ HS.out.s).mono ?_
  rintro e w2 ⟨rfl, hb2⟩
  have HS2 := Lib.hid (HS.out.below hb2 (Nat.le_refl _))
  have HBX2 := Lib.hid (HBX.out.below hb2 HBX.out.lt)
  have HO2 := Lib.hid (HO1.out.trans (Oth.below (S := [g, ss, sr]) hb2 (Nat.le_refl _)))
  have hs2 : w.heap.size + 1 ≤ w2.heap.size := by have := hb2.size; simp at this; omega
  clear hb2 k0
  have y0 : w2.cell? ⟨w.heap.size, 0, none⟩ = some (.int .i64 a) := HBX2.out.cell 0
  have y1 : w2.cell? ⟨w.heap.size, 1, none⟩ = some (.int .i64 b) := HBX2.out.cell 1
  have y2 : w2.cell? ⟨w.heap.size, 2, none⟩ = some (.string q) := HBX2.out.cell 2
  have y3 : w2.cell? ⟨w.heap.size, 3, none⟩ = some (.int .i64 d) := HBX2.out.cell 3
  have k0 : w2.cell? ⟨g, 0, none⟩ = some (.slice (some ⟨ss, 0, none⟩) n n) := HS2.out.k.cell 0
  have k1 : w2.cell? ⟨g, 1, none⟩ = some (.slice (some ⟨sr, 0, none⟩) n n) := HS2.out.k.cell 1
  obtain ⟨s, hs⟩ : ∃ s, S[at_]? = some s := ⟨_, List.getElem?_eq_getElem (by rw [HS.out.ns]; exact hat)⟩
  obtain ⟨o, ho⟩ : ∃ o, R[at_]? = some o := ⟨_, List.getElem?_eq_getElem (by rw [HS.out.nr]; exact hat)⟩
  obtain ⟨s0, s1⟩ := HS2.out.s.cell hs
  obtain ⟨o0, o1, o2, o3⟩ := HS2.out.r.cell ho
  have f0 : w2.frozen? ⟨ss, at_ * 2, none⟩ = false := HS2.out.s.frozen _
  have f1 : w2.frozen? ⟨ss, at_ * 2 + 1, none⟩ = false := HS2.out.s.frozen _
  have f2 : ∀ i : Nat, w2.frozen? ⟨sr, i, none⟩ = false := fun i => HS2.out.r.frozen _
  obtain ⟨d1, d2, d3⟩ : g ≠ ss ∧ g ≠ sr ∧ ss ≠ sr := ⟨HS2.out.d1, HS2.out.d2, HS2.out.d3⟩
  have e1 : ss ≠ w.heap.size := by omega
  have e2 : sr ≠ w.heap.size := by omega
  clear hs ho
  go_wp2_with fail
  go_region
  have HS3 := Lib.hid ((HS2.out.slot at_ ⟨true, key⟩).rec_ at_ ⟨a, b, q, d⟩).drew
  have HO3 := Lib.hid (((((((HO2.out.setCell (p := ⟨ss, at_ * 2, none⟩) (.inl (by simp)) (.bool true)).setCell (p := ⟨ss, at_ * 2 + 1, none⟩) (.inl (by simp)) (.string key)).setCell (p := ⟨sr, at_ * 4, none⟩) (.inl (by simp)) (.int .i64 a)).setCell (p := ⟨sr, at_ * 4 + 1, none⟩) (.inl (by simp)) (.int .i64 b)).setCell (p := ⟨sr, at_ * 4 + 2, none⟩) (.inl (by simp)) (.string q)).setCell (p := ⟨sr, at_ * 4 + 3, none⟩) (.inl (by simp)) (.int .i64 d)).drew)
  clear s0 s1 o0 o1 o2 o3 f0 f1 f2 k0 k1 y0 y1 y2 y3
  generalize hw3 : (((((((w2.setCell ⟨ss, at_ * 2, none⟩ (.bool true)).setCell ⟨ss, at_ * 2 + 1, none⟩ (.string key)).setCell ⟨sr, at_ * 4, none⟩ (.int .i64 a)).setCell ⟨sr, at_ * 4 + 1, none⟩ (.int .i64 b)).setCell ⟨sr, at_ * 4 + 2, none⟩ (.string q)).setCell ⟨sr, at_ * 4 + 3, none⟩ (.int .i64 d)).drew) = w3 at *
  clear hw3
  have k2 : w3.cell? ⟨g, 2, none⟩ = some (.int .i64 (u : Int)) := HS3.out.k.cell 2
  have f3 : w3.frozen? ⟨g, 2, none⟩ = false := HS3.out.k.frozen _
  go_wp2
  go_end0
  exact ⟨rfl, HS3.out.used _ _ (by omega), HO3.out.setCell (p := ⟨g, 2, none⟩) (.inl (by simp)) _⟩
theorem full_no (g ss sr n u : Nat) (S : List Slt) (R : List Rc) (w : World) (h : StAt w g ss sr n S R u) (hn : n ≤ 100000) (hu : 4 * u < 3 * n) :
    Calls Tryz.prog 92 #[.pointer (some ⟨g, 0, none⟩)] w fun e w' => e = .returned (.bool false) ∧ ∃ m, w' = w.drewN m := by
  have k0 : w.cell? ⟨g, 0, none⟩ = some (.slice (some ⟨ss, 0, none⟩) n n) := h.k.cell 0
  have k2 : w.cell? ⟨g, 2, none⟩ = some (.int .i64 (u : Int)) := h.k.cell 2
  have h1 : IntKind.i64.wrap (4 * (u : Int)) = 4 * (u : Int) := IntWalk.i64_in _ (by omega)
  have h2 : IntKind.i64.wrap (3 * (n : Int)) = 3 * (n : Int) := IntWalk.i64_in _ (by omega)
  have h3 : ¬ (3 * (n : Int) ≤ 4 * (u : Int)) := by omega
  have h4 : decide (3 * (n : Int) ≤ 4 * (u : Int)) = false := by simp; omega
  go_enter Tryz.func92, Tryz.ntmps92
  go_wp2_with fail
  go_quiet (fail)
  go_wp2_with fail
  go_ret
  exact ⟨by first | rfl | simp [h4], _, rfl⟩
/-- A record that is held. -/
def Rc.heldOk (r : Rc) : Prop := r.st = 1 ∧ 0 ≤ r.ow ∧ r.ow < 64 ∧ 0 < r.nm.size ∧ r.nm.size ≤ 63 ∧ 1 ≤ r.dl ∧ r.dl ≤ 1073741824
set_option maxHeartbeats 2000000 in
theorem rcheck_held (r : Rc) (h : r.heldOk) (w : World) : Calls Tryz.prog 89 #[.agg r.arr] w fun e w' => e = .returned (.bool true) ∧ Below w.heap.size w w' := by
  obtain ⟨a, b, q, d⟩ := r
  obtain ⟨h1, h2, h3, h4, h5, h6, h7⟩ := h
  dsimp only at h1 h2 h3 h4 h5 h6 h7
  subst h1
  show Calls Tryz.prog 89 #[.agg (rcA 1 b q d)] w _
  obtain ⟨x0, x1, x2, x3⟩ := box_rc w 1 b q d
  have hqe : q.toList.isEmpty = false := by rw [size_empty]; exact decide_eq_false (by omega)
  go_enter Tryz.func89, Tryz.ntmps89
  go_wp2_with fail
  go_ret
  exact ⟨rfl, (Below.refl _ _).alloc (Nat.le_refl _) _⟩
/-- The store behind Put of a record that is held. -/
theorem StAt.oth {w w' : World} {g ss sr n u : Nat} {S : List Slt} {R : List Rc} {K : List Nat} (h : StAt w g ss sr n S R u) (ho : Oth K w w') (h1 : g ∉ K) (h2 : ss ∉ K) (h3 : sr ∉ K) : StAt w' g ss sr n S R u :=
  ⟨h.k.oth ho h1, Bk.oth h.s ho h2, Bk.oth h.r ho h3, h.ns, h.nr, h.d1, h.d2, h.d3⟩
theorem LkAt.oth {w w' : World} {g ss sr n u : Nat} {S : List Slt} {R : List Int} {K : List Nat} (h : LkAt w g ss sr n S R u) (ho : Oth K w w') (h1 : g ∉ K) (h2 : ss ∉ K) (h3 : sr ∉ K) : LkAt w' g ss sr n S R u :=
  ⟨h.k.oth ho h1, Bk.oth h.s ho h2, Bk.oth h.o ho h3, h.ns, h.no, h.d1, h.d2, h.d3⟩
end Go.Proofs.YtddieenjdaociaaGreatDoor
namespace Go.Proofs.YtddieenjdaociaaGreatDoor
open Go Go.RowKit Go.Shelf
set_option linter.unusedVariables false

set_option maxRecDepth 100000 in
set_option maxHeartbeats 8000000 in
theorem put_new (g ss sr n u at_ : Nat) (S : List Slt) (R : List Rc) (key : ByteArray) (r : Rc) (w : World) (h : StAt w g ss sr n S R u) (hn0 : 0 < n) (hn : n ≤ 100000) (hk : key.size ≤ 1000000) (hu : 4 * u < 3 * n) (hr : r.heldOk)
    (z : Nat) (hz : z < n) (hfree : ∀ s, S[z]? = some s → s.u = false) (hf : findS S key = (at_, false)) (hat : at_ < n) :
    Calls Tryz.prog 56 #[.pointer (some ⟨g, 0, none⟩), .string key, .agg r.arr] w fun e w' => e = .returned (.int .i64 0) ∧ StAt w' g ss sr n (S.set at_ ⟨true, key⟩) (R.set at_ r) (u + 1) ∧ Oth [g, ss, sr] w w' := by
  have HF := Lib.hid (fun w hS => find_any ss n n S key w hS h.ns hn0 hn hk z hz hfree)
  rw [hf] at HF
  have HI := Lib.hid (fun w hS => insert_new g ss sr n u at_ S R key r w hS hn0 hn hk (by omega) z hz hfree hf hat)
  have HC := Lib.hid (fun w => rcheck_held r hr w)
  obtain ⟨a, b, q, d⟩ := r
  obtain rfl : a = 1 := hr.1
  have HC' : Hid (∀ w : World, Calls Tryz.prog 89 #[.agg (rcA 1 b q d)] w fun e w' => e = .returned (.bool true) ∧ Below w.heap.size w w') := HC
  have HI' : Hid (∀ w : World, StAt w g ss sr n S R u → Calls Tryz.prog 94 #[.pointer (some ⟨g, 0, none⟩), .string key, .agg (rcA 1 b q d)] w fun e w' => e = .returned (.tuple #[]) ∧ StAt w' g ss sr n (S.set at_ ⟨true, key⟩) (R.set at_ ⟨1, b, q, d⟩) (u + 1) ∧ Oth [g, ss, sr] w w') := HI
  clear HC HI hr
  show Calls Tryz.prog 56 #[.pointer (some ⟨g, 0, none⟩), .string key, .agg (rcA 1 b q d)] w _
  have HS := Lib.hid (show StAt ((w.alloc (.cells #[.pointer (some ⟨g, 0, none⟩)] 85)).alloc (.cells (rcA 1 b q d) 38)) g ss sr n S R u from h.below (below_two w _ _) (Nat.le_refl _))
  have HP := Lib.hid ((Bk.new w 85 #[.pointer (some ⟨g, 0, none⟩)]).alloc (.cells (rcA 1 b q d) 38))
  have HX := Lib.hid (bk_second w (.cells #[.pointer (some ⟨g, 0, none⟩)] 85) 38 (rcA 1 b q d))
  have HO := Lib.hid (((Oth.refl [g, ss, sr] w).alloc (.cells #[.pointer (some ⟨g, 0, none⟩)] 85)).alloc (.cells (rcA 1 b q d) 38))
  have hgw : g < w.heap.size := h.k.lt
  have hsw : sr < w.heap.size := h.r.lt
  have hssw : ss < w.heap.size := h.s.lt
  clear hfree hf h
  go_enter Tryz.func56, Tryz.ntmps56
  go_wp2_with fail
  refine (HC'.out _).mono ?_
  rintro e w2 ⟨rfl, hb2⟩
  have HS2 := Lib.hid (HS.out.below hb2 (Nat.le_refl _))
  have HP2 := Lib.hid (HP.out.below hb2 HP.out.lt)
  have HX2 := Lib.hid (HX.out.below hb2 HX.out.lt)
  have HO2 := Lib.hid (HO.out.trans (Oth.below (S := [g, ss, sr]) hb2 (Nat.le_refl _)))
  have hs2 : w.heap.size + 2 ≤ w2.heap.size := by have := hb2.size; simp at this; omega
  clear hb2 HS HP HX HO
  have p0 : w2.cell? ⟨w.heap.size, 0, none⟩ = some (.pointer (some ⟨g, 0, none⟩)) := HP2.out.cell 0
  have k0 : w2.cell? ⟨g, 0, none⟩ = some (.slice (some ⟨ss, 0, none⟩) n n) := HS2.out.k.cell 0
  go_wp2_with fail
  refine (HF.out _ HS2.out.s).mono ?_
  rintro e w3 ⟨rfl, hb3⟩
  have HS3 := Lib.hid (HS2.out.below hb3 (Nat.le_refl _))
  have HP3 := Lib.hid (HP2.out.below hb3 HP2.out.lt)
  have HX3 := Lib.hid (HX2.out.below hb3 HX2.out.lt)
  have HO3 := Lib.hid (HO2.out.trans (Oth.below (S := [g, ss, sr]) hb3 (Nat.le_refl _)))
  have hs3 := hb3.size
  clear hb3 HS2 HP2 HX2 HO2 p0 k0
  have p0 : w3.cell? ⟨w.heap.size, 0, none⟩ = some (.pointer (some ⟨g, 0, none⟩)) := HP3.out.cell 0
  have x0 : w3.cell? ⟨w.heap.size + 1, 0, none⟩ = some (.int .i64 1) := HX3.out.cell 0
  have HFN := Lib.hid (full_no g ss sr n u S R w3 HS3.out hn hu)
  go_wp2_with fail
  refine HFN.out.mono ?_
  rintro e w4 ⟨rfl, m, rfl⟩
  have HFN2 := Lib.hid (full_no g ss sr n u S R (w3.drewN m) (HS3.out.drewN m) hn hu)
  go_wp2_with fail
  refine HFN2.out.mono ?_
  rintro e w5 ⟨rfl, m2, rfl⟩
  have x1 : w3.cell? ⟨w.heap.size + 1, 1, none⟩ = some (.int .i64 b) := HX3.out.cell 1
  have x2 : w3.cell? ⟨w.heap.size + 1, 2, none⟩ = some (.string q) := HX3.out.cell 2
  have x3 : w3.cell? ⟨w.heap.size + 1, 3, none⟩ = some (.int .i64 d) := HX3.out.cell 3
  go_wp2_with fail
  refine (HI'.out _ (HS3.out.drewN (m + m2))).mono ?_
  rintro e w6 ⟨rfl, hs6, ho6⟩
  have HS6 := Lib.hid hs6
  have HO6 := Lib.hid ((HO3.out.drewN (m + m2)).trans ho6)
  clear hs6 ho6
  go_wp2
  go_ret
  exact ⟨rfl, HS6.out, HO6.out⟩
set_option maxRecDepth 100000 in
set_option maxHeartbeats 8000000 in
theorem put_over (g ss sr n u at_ : Nat) (S : List Slt) (R : List Rc) (key : ByteArray) (r : Rc) (w : World) (h : StAt w g ss sr n S R u) (hn0 : 0 < n) (hn : n ≤ 100000) (hk : key.size ≤ 1000000) (hr : r.heldOk)
    (z : Nat) (hz : z < n) (hfree : ∀ s, S[z]? = some s → s.u = false) (hf : findS S key = (at_, true)) (hat : at_ < n) :
    Calls Tryz.prog 56 #[.pointer (some ⟨g, 0, none⟩), .string key, .agg r.arr] w fun e w' => e = .returned (.int .i64 0) ∧ StAt w' g ss sr n S (R.set at_ r) u ∧ Oth [g, ss, sr] w w' := by
  have HF := Lib.hid (fun w hS => find_any ss n n S key w hS h.ns hn0 hn hk z hz hfree)
  rw [hf] at HF
  have HC := Lib.hid (fun w => rcheck_held r hr w)
  obtain ⟨a, b, q, d⟩ := r
  obtain rfl : a = 1 := hr.1
  have HC' : Hid (∀ w : World, Calls Tryz.prog 89 #[.agg (rcA 1 b q d)] w fun e w' => e = .returned (.bool true) ∧ Below w.heap.size w w') := HC
  clear HC hr
  show Calls Tryz.prog 56 #[.pointer (some ⟨g, 0, none⟩), .string key, .agg (rcA 1 b q d)] w _
  have HS := Lib.hid (show StAt ((w.alloc (.cells #[.pointer (some ⟨g, 0, none⟩)] 85)).alloc (.cells (rcA 1 b q d) 38)) g ss sr n S R u from h.below (below_two w _ _) (Nat.le_refl _))
  have HP := Lib.hid ((Bk.new w 85 #[.pointer (some ⟨g, 0, none⟩)]).alloc (.cells (rcA 1 b q d) 38))
  have HX := Lib.hid (bk_second w (.cells #[.pointer (some ⟨g, 0, none⟩)] 85) 38 (rcA 1 b q d))
  have HO := Lib.hid (((Oth.refl [g, ss, sr] w).alloc (.cells #[.pointer (some ⟨g, 0, none⟩)] 85)).alloc (.cells (rcA 1 b q d) 38))
  have hgw : g < w.heap.size := h.k.lt
  have hsw : sr < w.heap.size := h.r.lt
  have hssw : ss < w.heap.size := h.s.lt
  clear hfree hf h
  go_enter Tryz.func56, Tryz.ntmps56
  go_wp2_with fail
  refine (HC'.out _).mono ?_
  rintro e w2 ⟨rfl, hb2⟩
  have HS2 := Lib.hid (HS.out.below hb2 (Nat.le_refl _))
  have HP2 := Lib.hid (HP.out.below hb2 HP.out.lt)
  have HX2 := Lib.hid (HX.out.below hb2 HX.out.lt)
  have HO2 := Lib.hid (HO.out.trans (Oth.below (S := [g, ss, sr]) hb2 (Nat.le_refl _)))
  have hs2 : w.heap.size + 2 ≤ w2.heap.size := by have := hb2.size; simp at this; omega
  clear hb2 HP HX HO
  have p0 : w2.cell? ⟨w.heap.size, 0, none⟩ = some (.pointer (some ⟨g, 0, none⟩)) := HP2.out.cell 0
  have k0 : w2.cell? ⟨g, 0, none⟩ = some (.slice (some ⟨ss, 0, none⟩) n n) := HS2.out.k.cell 0
  go_wp2_with fail
  refine (HF.out _ HS2.out.s).mono ?_
  rintro e w3 ⟨rfl, hb3⟩
  have HS3 := Lib.hid (HS2.out.below hb3 (Nat.le_refl _))
  have HP3 := Lib.hid (HP2.out.below hb3 HP2.out.lt)
  have HX3 := Lib.hid (HX2.out.below hb3 HX2.out.lt)
  have HO3 := Lib.hid (HO2.out.trans (Oth.below (S := [g, ss, sr]) hb3 (Nat.le_refl _)))
  have hs3 := hb3.size
  clear hb3 HS2 HP2 HX2 HO2 p0 k0
  have p0 : w3.cell? ⟨w.heap.size, 0, none⟩ = some (.pointer (some ⟨g, 0, none⟩)) := HP3.out.cell 0
  have x0 : w3.cell? ⟨w.heap.size + 1, 0, none⟩ = some (.int .i64 1) := HX3.out.cell 0
  have x1 : w3.cell? ⟨w.heap.size + 1, 1, none⟩ = some (.int .i64 b) := HX3.out.cell 1
  have x2 : w3.cell? ⟨w.heap.size + 1, 2, none⟩ = some (.string q) := HX3.out.cell 2
  have x3 : w3.cell? ⟨w.heap.size + 1, 3, none⟩ = some (.int .i64 d) := HX3.out.cell 3
  have k1 : w3.cell? ⟨g, 1, none⟩ = some (.slice (some ⟨sr, 0, none⟩) n n) := HS3.out.k.cell 1
  obtain ⟨o, ho⟩ : ∃ o, R[at_]? = some o := ⟨_, List.getElem?_eq_getElem (by rw [HS.out.nr]; exact hat)⟩
  obtain ⟨o0, o1, o2, o3⟩ := HS3.out.r.cell ho
  have f2 : ∀ i : Nat, w3.frozen? ⟨sr, i, none⟩ = false := fun i => HS3.out.r.frozen _
  have e1 : sr ≠ w.heap.size := by omega
  have e2 : sr ≠ w.heap.size + 1 := by omega
  have d2 : g ≠ sr := HS3.out.d2
  clear ho HS
  go_wp2_with fail
  go_region
  have HS4 := Lib.hid (HS3.out.rec_ at_ ⟨1, b, q, d⟩).drew
  have HO4 := Lib.hid ((((HO3.out.setCell (p := ⟨sr, at_ * 4, none⟩) (.inl (by simp)) (.int .i64 1)).setCell (p := ⟨sr, at_ * 4 + 1, none⟩) (.inl (by simp)) (.int .i64 b)).setCell (p := ⟨sr, at_ * 4 + 2, none⟩) (.inl (by simp)) (.string q)).setCell (p := ⟨sr, at_ * 4 + 3, none⟩) (.inl (by simp)) (.int .i64 d)).drew
  go_wp2
  go_ret
  exact ⟨rfl, HS4.out, HO4.out⟩
end Go.Proofs.YtddieenjdaociaaGreatDoor
namespace Go.Proofs.YtddieenjdaociaaGreatDoor
open Go Go.RowKit Go.Shelf
set_option linter.unusedVariables false

theorem test_hold (a b : Int) (s : ByteArray) (d client now : Int) (ha : a = 0 ∨ a = 1) (w : World) :
    Calls Tryz.prog 120 #[.agg (rcA a b s d), .int .i64 1, .int .i64 client, .int .i64 now] w fun e w' => e = .returned (.int .i64 (if Rc.live ⟨a, b, s, d⟩ now then 24 else 0)) ∧ Below w.heap.size w w' := by
  have HL := Lib.hid (fun w => live_any a b s d now ha w)
  obtain ⟨x0, x1, x2, x3⟩ := box_rc w a b s d
  have HB := Lib.hid ((Below.refl w.heap.size w).alloc (Nat.le_refl _) (.cells (rcA a b s d) 38))
  generalize Rc.live ⟨a, b, s, d⟩ now = lv at *
  go_enter Tryz.func120, Tryz.ntmps120
  go_wp2_with fail
  refine (HL.out _).mono ?_
  rintro e w1 ⟨rfl, hb⟩
  have HB1 := Lib.hid (HB.out.trans (hb.mono (by simp)))
  clear hb x0 x1 x2 x3
  cases lv
  · go_wp2_with fail
    go_ret
    exact ⟨rfl, HB1.out⟩
  · go_wp2_with fail
    go_ret
    exact ⟨rfl, HB1.out⟩
theorem test_query (a b : Int) (s : ByteArray) (d client now : Int) (w : World) :
    Calls Tryz.prog 120 #[.agg (rcA a b s d), .int .i64 7, .int .i64 client, .int .i64 now] w fun e w' => e = .returned (.int .i64 0) ∧ Below w.heap.size w w' := by
  go_enter Tryz.func120, Tryz.ntmps120
  go_wp2_with fail
  go_ret
  exact ⟨rfl, (Below.refl _ _).alloc (Nat.le_refl _) _⟩
theorem grows_hold (a b : Int) (s : ByteArray) (d : Int) (ha : a = 0 ∨ a = 1) (w : World) :
    Calls Tryz.prog 88 #[.agg (rcA a b s d), .int .i64 1] w fun e w' => e = .returned (.int .i64 (1 - a)) ∧ Below w.heap.size w w' := by
  obtain ⟨x0, x1, x2, x3⟩ := box_rc w a b s d
  rcases ha with rfl | rfl
  · go_enter Tryz.func88, Tryz.ntmps88
    go_wp2_with fail
    go_ret
    exact ⟨rfl, (Below.refl _ _).alloc (Nat.le_refl _) _⟩
  · go_enter Tryz.func88, Tryz.ntmps88
    go_wp2_with fail
    go_ret
    exact ⟨rfl, (Below.refl _ _).alloc (Nat.le_refl _) _⟩
theorem grows_query (a b : Int) (s : ByteArray) (d : Int) (w : World) :
    Calls Tryz.prog 88 #[.agg (rcA a b s d), .int .i64 7] w fun e w' => e = .returned (.int .i64 0) ∧ Below w.heap.size w w' := by
  go_enter Tryz.func88, Tryz.ntmps88
  go_wp2_with fail
  go_ret
  exact ⟨rfl, (Below.refl _ _).alloc (Nat.le_refl _) _⟩
theorem set4 {w : World} {g : Nat} {T : TypeId} {a0 a1 a2 a3 : Value} (h : Bk w g T #[a0, a1, a2, a3]) (v0 v1 v2 v3 : Value) : Bk ((((w.setCell ⟨g, 0, none⟩ v0).setCell ⟨g, 1, none⟩ v1).setCell ⟨g, 2, none⟩ v2).setCell ⟨g, 3, none⟩ v3) g T #[v0, v1, v2, v3] := by
  have h0 : Bk _ g T #[v0, a1, a2, a3] := h.set_ 0 v0
  have h1 : Bk _ g T #[v0, v1, a2, a3] := h0.set_ 1 v1
  have h2 : Bk _ g T #[v0, v1, v2, a3] := h1.set_ 2 v2
  exact h2.set_ 3 v3
theorem below4 {w W : World} {B g : Nat} (h : Below B W w) (hg : B ≤ g) (v0 v1 v2 v3 : Value) : Below B W ((((w.setCell ⟨g, 0, none⟩ v0).setCell ⟨g, 1, none⟩ v1).setCell ⟨g, 2, none⟩ v2).setCell ⟨g, 3, none⟩ v3) :=
  (((h.setCell (p := ⟨g, 0, none⟩) hg v0).setCell (p := ⟨g, 1, none⟩) hg v1).setCell (p := ⟨g, 2, none⟩) hg v2).setCell (p := ⟨g, 3, none⟩) hg v3
theorem after_hold (a b : Int) (s : ByteArray) (d client : Int) (nm : ByteArray) (dl : Int) (w : World) :
    Calls Tryz.prog 121 #[.agg (rcA a b s d), .int .i64 1, .int .i64 client, .string nm, .int .i64 dl] w fun e w' => e = .returned (.agg (rcA 1 client nm dl)) ∧ Below w.heap.size w w' := by
  have HX := Lib.hid (bk_second w (.cells (rcA a b s d) 38) 38 (rcA 1 client nm dl))
  have HB := Lib.hid (below_two w (.cells (rcA a b s d) 38) (.cells (rcA 1 client nm dl) 38))
  go_enter Tryz.func121, Tryz.ntmps121
  go_wp2_with fail
  exact bodyPost_ret (results_cell_row (P := Tryz.prog) (p := 10) (ty := 38) rfl _ _ (w.heap.size + 1) _ _ _ _ rfl HX.out Tryz.underlying38 rfl (by kernel_rfl)) rfl ⟨rfl, HB.out⟩
theorem after_query (a b : Int) (s : ByteArray) (d client : Int) (nm : ByteArray) (dl : Int) (w : World) :
    Calls Tryz.prog 121 #[.agg (rcA a b s d), .int .i64 7, .int .i64 client, .string nm, .int .i64 dl] w fun e w' => e = .returned (.agg (rcA a b s d)) ∧ Below w.heap.size w w' := by
  have HX := Lib.hid (bk_second w (.cells (rcA a b s d) 38) 38 (rcA a b s d))
  have HB := Lib.hid (below_two w (.cells (rcA a b s d) 38) (.cells (rcA a b s d) 38))
  go_enter Tryz.func121, Tryz.ntmps121
  go_wp2_with fail
  exact bodyPost_ret (results_cell_row (P := Tryz.prog) (p := 10) (ty := 38) rfl _ _ (w.heap.size + 1) _ _ _ _ rfl HX.out Tryz.underlying38 rfl (by kernel_rfl)) rfl ⟨rfl, HB.out⟩
theorem mtimed_hold (w : World) : Calls Tryz.prog 118 #[.int .i64 1] w fun e w' => e = .returned (.bool true) ∧ w' = w := by
  go_enter Tryz.func118, Tryz.ntmps118
  go_wp2_with fail
  go_ret
  exact ⟨rfl, rfl⟩
theorem mtimed_query (w : World) : Calls Tryz.prog 118 #[.int .i64 7] w fun e w' => e = .returned (.bool false) ∧ w' = w := by
  go_enter Tryz.func118, Tryz.ntmps118
  go_wp2_with fail
  go_ret
  exact ⟨rfl, rfl⟩
theorem rcC_one (l : List Rc) : ∀ u ∈ rcC l, u.oneCell' = true := by
  intro u hu
  obtain ⟨n, _, hn⟩ := List.mem_flatMap.1 hu
  simp [Rc.cells] at hn
  rcases hn with rfl | rfl | rfl | rfl <;> rfl
theorem rcC_append (l m : List Rc) : rcC (l ++ m) = rcC l ++ rcC m := by simp [rcC]
/-- append(out, l...) at []api.Record, out nil or a row of the call's own. -/
theorem app_rc {w : World} {ops : Array Oper} {rest : List Oper} {o : Oper} {a : Act} {Q : Exit → Act → World → Prop} (hw : Region.wanted o (yielded ops a.tmps) = true) (s x : Operand)
    (ho : o.op = .call { callee := .builtin .append, args := #[s, x], argTypes := #[78, 78] })
    {base : Nat} {v : Value} {n : Nat} {xs : List Rc} (hs : a.eval s = v) (hown : w.ownsRow base 38 4 v n (rcC xs))
    {B : Nat} {A : Option Addr} {m c : Nat} {ys : List Rc} (hx : a.eval x = .slice A m c) (hr : Rd w B 4 A m (rcC ys))
    (hlen : n + m ≤ 1000000000) (hbase : base ≤ w.heap.size)
    (h : ∀ A' c' w', w'.ownsRow base 38 4 (.slice A' (n + m) c') (n + m) (rcC (xs ++ ys)) → w.grownBy w' v.ownBlock →
      ((Value.slice A' (n + m) c').ownBlock = v.ownBlock ∨ (Value.slice A' (n + m) c').ownBlock = some w.heap.size) → wpList Tryz.prog ops Q rest (a.put o.dst (.slice A' (n + m) c')) w') :
    wpList Tryz.prog ops Q (o :: rest) a w := by
  obtain ⟨i0, hi, hz0, hz1, hz2⟩ := info_parts info_rcd
  refine wpList_app hw s x _ ho base _ i0 _ 4 40 Tryz.underlying78 hi hz0 hz1 hz2 rfl (by decide) v n (rcC xs) hs hown B A m c (rcC ys) hx hr (rcC_one ys)
    (by unfold maxLen; omega) (by omega) hbase ?_
  intro v' w' h2 h3 h4
  obtain ⟨A', c', rfl⟩ := own_form h2
  rw [← rcC_append] at h2
  exact h A' c' w' h2 h3 h4
/-- What a slice literal of one record reads as. -/
theorem rd_one_rc {w : World} {z : Nat} (hz : w.heap.size = z) (r : Rc) : Rd (w.alloc (.cells (rcA r.st r.ow r.nm r.dl) 38)) (z + 1) 4 (some ⟨z, 0, none⟩) 1 (rcC [r]) := by
  subst hz
  have hb := Bk.new w 38 (rcA r.st r.ow r.nm r.dl)
  refine ⟨rfl, fun _ => ⟨w.heap.size, 0, rfl, by omega, fun j u hu => ?_⟩⟩
  rw [Nat.zero_add, hb.cell]
  simpa [rcC, Rc.cells] using hu
end Go.Proofs.YtddieenjdaociaaGreatDoor
