/- bundle.Make of one name at the tables without rows. The clock, records, the sum of a string. Tables of slots: a key is found, or the first unused slot. -/
import Derived.Test.YtddieenjdaociaaGreatDoorM12
namespace Go.Proofs.YtddieenjdaociaaGreatDoor
open Go Go.RowKit Go.Shelf
set_option linter.unusedVariables false

/-- A canonical name. -/
structure Nm where
  a : ByteArray
  u : ByteArray
  k : ByteArray
def Nm.cells (n : Nm) : List Value := [.string n.a, .string n.u, .string n.k]
def nmsC (l : List Nm) : List Value := l.flatMap Nm.cells
theorem nmsC_length (l : List Nm) : (nmsC l).length = l.length * 3 := by
  induction l with
  | nil => rfl
  | cons a r ih => simp [nmsC, Nm.cells] at *; omega
theorem nmsC_one (l : List Nm) : ∀ u ∈ nmsC l, u.oneCell' = true := by
  intro u hu
  obtain ⟨n, _, hn⟩ := List.mem_flatMap.1 hu
  simp [Nm.cells] at hn
  rcases hn with rfl | rfl | rfl <;> rfl
theorem nmsC_append (l m : List Nm) : nmsC (l ++ m) = nmsC l ++ nmsC m := by simp [nmsC]
theorem info_nm : (Tryz.prog.info? 127).map (fun i => (i.zero, i.size, i.bytes)) = some (some (.agg #[.string ByteArray.empty, .string ByteArray.empty, .string ByteArray.empty]), 3, 48) := by kernel_rfl
/-- append(out, l...) at []api.Name, out nil or a row of the call's own. -/
theorem app_nm {w : World} {ops : Array Oper} {rest : List Oper} {o : Oper} {a : Act} {Q : Exit → Act → World → Prop} (hw : Region.wanted o (yielded ops a.tmps) = true) (s x : Operand)
    (ho : o.op = .call { callee := .builtin .append, args := #[s, x], argTypes := #[73, 73] })
    {base : Nat} {v : Value} {n : Nat} {xs : List Nm} (hs : a.eval s = v) (hown : w.ownsRow base 127 3 v n (nmsC xs))
    {B : Nat} {A : Option Addr} {m c : Nat} {ys : List Nm} (hx : a.eval x = .slice A m c) (hr : Rd w B 3 A m (nmsC ys))
    (hlen : n + m ≤ 1000000000) (hbase : base ≤ w.heap.size)
    (h : ∀ A' c' w', w'.ownsRow base 127 3 (.slice A' (n + m) c') (n + m) (nmsC (xs ++ ys)) → w.grownBy w' v.ownBlock →
      ((Value.slice A' (n + m) c').ownBlock = v.ownBlock ∨ (Value.slice A' (n + m) c').ownBlock = some w.heap.size) → wpList Tryz.prog ops Q rest (a.put o.dst (.slice A' (n + m) c')) w') :
    wpList Tryz.prog ops Q (o :: rest) a w := by
  obtain ⟨i0, hi, hz0, hz1, hz2⟩ := info_parts info_nm
  refine wpList_app hw s x _ ho base _ i0 _ 3 48 Tryz.underlying73 hi hz0 hz1 hz2 rfl (by decide) v n (nmsC xs) hs hown B A m c (nmsC ys) hx hr (nmsC_one ys)
    (by unfold maxLen; omega) (by omega) hbase ?_
  intro v' w' h2 h3 h4
  obtain ⟨A', c', rfl⟩ := own_form h2
  rw [← nmsC_append] at h2
  exact h A' c' w' h2 h3 h4
set_option maxRecDepth 100000 in
set_option maxHeartbeats 1000000 in
theorem insertn_nil (A : Option Addr) (c : Nat) (x : Nm) (B : Nat) (w : World) (hr : Rd w B 3 A 1 (nmsC [x])) :
    Calls Tryz.prog 115 #[.slice none 0 0, .int .i64 0, .slice A 1 c] w fun e w' => ∃ g c', e = .returned (.slice (some ⟨g, 0, none⟩) 1 c') ∧ w'.ownsRow w.heap.size 127 3 (.slice (some ⟨g, 0, none⟩) 1 c') 1 (nmsC [x]) ∧ Below w.heap.size w w' := by
  have HR := Lib.hid hr; clear hr
  go_enter Tryz.func115, Tryz.ntmps115
  go_wp2_with (at_builtin; refine app_nm (by rfl) _ _ rfl (base := w.heap.size) (xs := []) rfl (World.ownsRow_nil _ _ _ _) rfl HR.out (by omega) (by omega) ?_)
  intro A1 c1 w1 ho1 hg1 _
  have ho1 : w1.ownsRow w.heap.size 127 3 (.slice A1 1 c1) 1 (nmsC [x]) := ho1
  have hb1 : Below w.heap.size w w1 := (Below.refl _ _).grown hg1 (Nat.le_refl _) (fun g h => by cases h)
  obtain ⟨g, rfl⟩ : ∃ g, A1 = some ⟨g, 0, none⟩ := by
    rcases ho1.2 with ⟨h, h0⟩ | ⟨g, cap, cur, hv, _⟩
    · omega
    · injection hv with hv; exact ⟨g, hv⟩
  have HO := Lib.hid ho1; have HB := Lib.hid hb1
  clear ho1 hg1 hb1
  go_wp2
  go_ret
  exact ⟨g, c1, rfl, HO.out, HB.out⟩
set_option maxRecDepth 100000 in
set_option maxHeartbeats 1000000 in
theorem inserti_nil (A : Option Addr) (c : Nat) (x : Int) (B : Nat) (w : World) (hr : Rd w B 1 A 1 (ints [x])) :
    Calls Tryz.prog 116 #[.slice none 0 0, .int .i64 0, .slice A 1 c] w (RetI 3 [x] w) := by
  have HR := Lib.hid hr; clear hr
  go_enter Tryz.func116, Tryz.ntmps116
  go_wp2_with (at_builtin; refine app_int (by rfl) _ _ rfl (base := w.heap.size) (xs := []) rfl (World.ownsRow_nil _ _ _ _) rfl HR.out (by omega) (by omega) ?_)
  intro A1 c1 w1 ho1 hg1 _
  have ho1 : w1.ownsRow w.heap.size 3 1 (.slice A1 1 c1) 1 (ints [x]) := ho1
  have hb1 : Below w.heap.size w w1 := (Below.refl _ _).grown hg1 (Nat.le_refl _) (fun g h => by cases h)
  have HO := Lib.hid ho1; have HB := Lib.hid hb1
  clear ho1 hg1 hb1
  go_wp2
  go_ret
  exact ⟨A1, c1, rfl, HO.out, HB.out⟩
/-- A struct that comes back through a cell, and two values ahead of it. -/
theorem results_two_row {P : Program} {fn : Func} {p u v : Tmp} {ty : TypeId} (h : fn.results = #[.tmp u, .tmp v, .cell p ty]) (tmps : Array Value) (w : World) (g : Nat) (cs : Array Value)
    (hp : tmps.getD p undef = .pointer (some ⟨g, 0, none⟩)) (hg : Bk w g ty cs) {fields : Array Field} (hu : P.underlying ty = some (.struct fields)) (hc : (P.info? ty).map (·.size) = some cs.size) :
    (results fn tmps).run P w = .ok (.tuple #[tmps.getD u undef, tmps.getD v undef, .agg cs]) w := by
  have hl := run_loadVar_row (P := P) w g ty ty cs (0, 0) _ hg hu rfl hc
  have hp' : tmps[p]?.getD undef = .pointer (some ⟨g, 0, none⟩) := by simpa using hp
  simp only [results, h]
  simp [Sem.run_bind, Result.andThen, hp', asAddr, hl]
/-- A record; a response. -/
structure Rc where
  st : Int
  ow : Int
  nm : ByteArray
  dl : Int
def Rc.cells (r : Rc) : List Value := [.int .i64 r.st, .int .i64 r.ow, .string r.nm, .int .i64 r.dl]
def Rc.none : Rc := ⟨0, 0, ByteArray.empty, 0⟩
structure Rs where
  err : Int
  at_ : Int
  nm : ByteArray
  rc : Rc
  tk : Int
def Rs.cells (r : Rs) : List Value := [.int .i64 r.err, .int .i64 r.at_, .string r.nm, .int .i64 r.rc.st, .int .i64 r.rc.ow, .string r.rc.nm, .int .i64 r.rc.dl, .int .i64 r.tk]
def Rs.arr (r : Rs) : Array Value := #[.int .i64 r.err, .int .i64 r.at_, .string r.nm, .int .i64 r.rc.st, .int .i64 r.rc.ow, .string r.rc.nm, .int .i64 r.rc.dl, .int .i64 r.tk]
/-- The cells of the empty response. -/
@[reducible] def rs0 : Array Value := #[.int .i64 0, .int .i64 0, .string ⟨#[]⟩, .int .i64 0, .int .i64 0, .string ⟨#[]⟩, .int .i64 0, .int .i64 0]
def Rs.zero : Rs := ⟨0, 0, ByteArray.empty, Rc.none, 0⟩
def Rs.fine : Rs := ⟨0, -1, ByteArray.empty, Rc.none, 0⟩
/-- The name of one label of letters. -/
def nmOf (s : ByteArray) : Nm := ⟨cn s, cn s, cn s⟩
/-- Eight cells of one block, written one after the other. -/
theorem set8 {w : World} {g : Nat} {T : TypeId} {a0 a1 a2 a3 a4 a5 a6 a7 : Value} (h : Bk w g T #[a0, a1, a2, a3, a4, a5, a6, a7]) (v0 v1 v2 v3 v4 v5 v6 v7 : Value) : Bk ((((((((w.setCell ⟨g, 0, none⟩ v0).setCell ⟨g, 1, none⟩ v1).setCell ⟨g, 2, none⟩ v2).setCell ⟨g, 3, none⟩ v3).setCell ⟨g, 4, none⟩ v4).setCell ⟨g, 5, none⟩ v5).setCell ⟨g, 6, none⟩ v6).setCell ⟨g, 7, none⟩ v7) g T #[v0, v1, v2, v3, v4, v5, v6, v7] := by
  have h0 : Bk _ g T #[v0, a1, a2, a3, a4, a5, a6, a7] := h.set_ 0 v0
  have h1 : Bk _ g T #[v0, v1, a2, a3, a4, a5, a6, a7] := h0.set_ 1 v1
  have h2 : Bk _ g T #[v0, v1, v2, a3, a4, a5, a6, a7] := h1.set_ 2 v2
  have h3 : Bk _ g T #[v0, v1, v2, v3, a4, a5, a6, a7] := h2.set_ 3 v3
  have h4 : Bk _ g T #[v0, v1, v2, v3, v4, a5, a6, a7] := h3.set_ 4 v4
  have h5 : Bk _ g T #[v0, v1, v2, v3, v4, v5, a6, a7] := h4.set_ 5 v5
  have h6 : Bk _ g T #[v0, v1, v2, v3, v4, v5, v6, a7] := h5.set_ 6 v6
  have h7 : Bk _ g T #[v0, v1, v2, v3, v4, v5, v6, v7] := h6.set_ 7 v7
  exact h7
theorem below8 {w W : World} {B g : Nat} (h : Below B W w) (hg : B ≤ g) (v0 v1 v2 v3 v4 v5 v6 v7 : Value) : Below B W ((((((((w.setCell ⟨g, 0, none⟩ v0).setCell ⟨g, 1, none⟩ v1).setCell ⟨g, 2, none⟩ v2).setCell ⟨g, 3, none⟩ v3).setCell ⟨g, 4, none⟩ v4).setCell ⟨g, 5, none⟩ v5).setCell ⟨g, 6, none⟩ v6).setCell ⟨g, 7, none⟩ v7) :=
  (((((((h.setCell (p := ⟨g, 0, none⟩) hg v0).setCell (p := ⟨g, 1, none⟩) hg v1).setCell (p := ⟨g, 2, none⟩) hg v2).setCell (p := ⟨g, 3, none⟩) hg v3).setCell (p := ⟨g, 4, none⟩) hg v4).setCell (p := ⟨g, 5, none⟩) hg v5).setCell (p := ⟨g, 6, none⟩) hg v6).setCell (p := ⟨g, 7, none⟩) hg v7
theorem own8 {w : World} {base g : Nat} {e : TypeId} {size n : Nat} {v : Value} {xs : List Value} (h : w.ownsRow base e size v n xs) (hg : g < base) (v0 v1 v2 v3 v4 v5 v6 v7 : Value) : ((((((((w.setCell ⟨g, 0, none⟩ v0).setCell ⟨g, 1, none⟩ v1).setCell ⟨g, 2, none⟩ v2).setCell ⟨g, 3, none⟩ v3).setCell ⟨g, 4, none⟩ v4).setCell ⟨g, 5, none⟩ v5).setCell ⟨g, 6, none⟩ v6).setCell ⟨g, 7, none⟩ v7).ownsRow base e size v n xs :=
  ownsRow_setCell_below (ownsRow_setCell_below (ownsRow_setCell_below (ownsRow_setCell_below (ownsRow_setCell_below (ownsRow_setCell_below (ownsRow_setCell_below (ownsRow_setCell_below h (a := ⟨g, 0, none⟩) hg v0) (a := ⟨g, 1, none⟩) hg v1) (a := ⟨g, 2, none⟩) hg v2) (a := ⟨g, 3, none⟩) hg v3) (a := ⟨g, 4, none⟩) hg v4) (a := ⟨g, 5, none⟩) hg v5) (a := ⟨g, 6, none⟩) hg v6) (a := ⟨g, 7, none⟩) hg v7
set_option maxRecDepth 100000 in
set_option maxHeartbeats 4000000 in
theorem make_alp (A : Option Addr) (c : Nat) (s : ByteArray) (B : Nat) (w : World) (hr : Rd w B 1 A 1 (strs [s])) (hB : B ≤ w.heap.size) (h0 : 0 < s.size) (hn : s.size ≤ 63) (ha : Alp (nums (lst s))) :
    Calls Tryz.prog 84 #[t0, .slice A 1 c] w fun e w' => ∃ g c' A2 c2, e = .returned (.tuple #[.slice (some ⟨g, 0, none⟩) 1 c', .slice A2 1 c2, .agg Rs.fine.arr]) ∧
      w'.ownsRow w.heap.size 127 3 (.slice (some ⟨g, 0, none⟩) 1 c') 1 (nmsC [nmOf s]) ∧ Below w.heap.size w w' := by
  have HC := Lib.hid (fun w => canon_alp s w h0 hn ha)
  have HNM := Lib.hid (show nmOf s = ⟨cn s, cn s, cn s⟩ from rfl)
  generalize nmOf s = x at *
  generalize cn s = y at *
  have hz : w.heap.size < (w.alloc (.cells t0c 30)).heap.size := by simp
  have HX := Lib.hid ((Bk.new w 30 t0c).alloc (.cells rs0 40))
  have HN := Lib.hid (bk_second w (.cells t0c 30) 40 rs0)
  have HB0 := Lib.hid (below_two w (.cells t0c 30) (.cells rs0 40))
  obtain ⟨b, off, u, rfl, hb, hu, hcell⟩ := ((hr.alloc hB (.cells t0c 30)).alloc (by simp; omega) (.cells rs0 40)).at_ (show 0 < 1 by omega)
  obtain rfl : u = .string s := by injection hu with hu; exact hu.symm
  have hcell0 : ((w.alloc (.cells t0c 30)).alloc (.cells rs0 40)).cell? ⟨b, off, none⟩ = some (.string s) := hcell
  clear ha hr hu hcell
  go_enter Tryz.func84, Tryz.ntmps84
  go_wp2_with fail
  generalize hw2 : (w.alloc (.cells t0c 30)).alloc (.cells rs0 40) = w2 at *
  have hs2 : w2.heap.size = w.heap.size + 2 := by rw [← hw2]; simp
  have hs2' : w.heap.size + 2 ≤ w2.heap.size := by omega
  clear hw2 hs2
  refine wp_loop_rounds 2 ?_
  rw [rounds_succ]
  obtain ⟨x0, x1, x2, x3, x4, x5, x6, x7, x8, x9, x10, x11⟩ := box_cells HX.out
  go_wp2_with fail
  clear x0 x1 x2 x3 x4 x5 x6 x7 x8 x9 x10 x11 hcell0
  refine (HC.out _).mono ?_
  rintro e w3 ⟨rfl, hb3⟩
  have HN3 := Lib.hid (HN.out.below hb3 HN.out.lt)
  have HB3 := Lib.hid (HB0.out.trans (hb3.mono (by omega)))
  have hs3 : w.heap.size + 2 ≤ w3.heap.size := by have := hb3.size; omega
  clear hb3 HX HN HB0
  unfold nameC
  go_wp2_with fail
  have HK3 := Lib.hid (Bk.new w3 127 #[.string y, .string y, .string y])
  have HN4 := Lib.hid (HN3.out.alloc (.cells #[.string y, .string y, .string y] 127))
  have HB4 := Lib.hid (HB3.out.alloc (by omega) (.cells #[.string y, .string y, .string y] 127))
  generalize hw4 : w3.alloc (.cells #[.string y, .string y, .string y] 127) = w4 at *
  have hs4 : w3.heap.size < w4.heap.size := by rw [← hw4]; simp
  clear hw4 HN3 HB3
  refine wp_loop_rounds 1 ?_
  rw [rounds_succ]
  go_wp2_with fail
  go_quiet (fail)
  have k0 : w4.cell? ⟨w3.heap.size, 0, none⟩ = some (.string y) := HK3.out.cell 0
  have k1 : w4.cell? ⟨w3.heap.size, 1, none⟩ = some (.string y) := HK3.out.cell 1
  have k2 : w4.cell? ⟨w3.heap.size, 2, none⟩ = some (.string y) := HK3.out.cell 2
  go_wp2_with fail
  have HR5 := Lib.hid (show Rd ((w4.drewN nq).alloc (.cells #[.string y, .string y, .string y] 127)) (w4.heap.size + 1) 3 (some ⟨w4.heap.size, 0, none⟩) 1 (nmsC [x]) by
    rw [HNM.out]
    have hb := Bk.new (w4.drewN nq) 127 #[.string y, .string y, .string y]
    refine ⟨rfl, fun _ => ⟨w4.heap.size, 0, rfl, by omega, fun j u hu => ?_⟩⟩
    rw [Nat.zero_add, show w4.heap.size = (w4.drewN nq).heap.size from rfl, hb.cell]
    simpa [nmsC, Nm.cells] using hu)
  have HN5 := Lib.hid ((HN4.out.drewN nq).alloc (.cells #[.string y, .string y, .string y] 127))
  have HB5 := Lib.hid ((below_drewN HB4.out nq).alloc (by show w.heap.size ≤ w4.heap.size; omega) (.cells #[.string y, .string y, .string y] 127))
  have hs5 : w4.heap.size < ((w4.drewN nq).alloc (.cells #[.string y, .string y, .string y] 127)).heap.size := by
    rw [World.size_alloc]; show w4.heap.size < w4.heap.size + 1; omega
  clear k0 k1 k2 HK3 HN4 HB4
  refine (insertn_nil _ 1 x _ _ HR5.out).mono ?_
  rintro e w6 ⟨g6, c6, rfl, ho6, hb6⟩
  have HN6 := Lib.hid (HN5.out.below hb6 HN5.out.lt)
  have HB6 := Lib.hid (HB5.out.trans (hb6.mono (by omega)))
  have HO6 := Lib.hid (own_low ho6 (show w.heap.size + 2 ≤ _ by omega))
  have hs6 : w4.heap.size < w6.heap.size := by have := hb6.size; omega
  clear ho6 hb6 HN5 HB5 HR5 hs5
  go_wp2_with fail
  have HR7 := Lib.hid (rd_one_int (w := w6) rfl (0 : Int))
  have HN7 := Lib.hid (HN6.out.alloc (.cells #[.int .i64 0] 3))
  have HB7 := Lib.hid (HB6.out.alloc (by omega) (.cells #[.int .i64 0] 3))
  have HO7 := Lib.hid (HO6.out.alloc (.cells #[.int .i64 0] 3))
  refine (inserti_nil _ 1 0 _ _ HR7.out).mono ?_
  rintro e w8 ⟨A8, c8, rfl, ho8, hb8⟩
  have HN8 := Lib.hid (HN7.out.below hb8 HN7.out.lt)
  have HB8 := Lib.hid (HB7.out.trans (hb8.mono (by simp; omega)))
  have HO8 := Lib.hid (own_past HO7.out hb8)
  have hs8 : w6.heap.size < w8.heap.size := by have := hb8.size; simp at this; omega
  clear ho8 hb8 HN6 HB6 HO6 HN7 HB7 HO7
  go_wp2_with fail
  rw [rounds_succ]
  go_wp2_with fail
  refine wp_loop_rounds 1 ?_
  rw [rounds_succ]
  have y0 : ∀ i : Nat, w8.cell? ⟨w.heap.size + 1, i, none⟩ = rs0[i]? := fun i => HN8.out.cell i
  have f0 : ∀ i : Nat, w8.frozen? ⟨w.heap.size + 1, i, none⟩ = false := fun i => HN8.out.frozen i
  go_wp2_with fail
  have hbk := set8 HN8.out (.int .i64 0) (.int .i64 (-1)) (.string ⟨#[]⟩) (.int .i64 0) (.int .i64 0) (.string ⟨#[]⟩) (.int .i64 0) (.int .i64 0)
  have hbl := below8 HB8.out (show w.heap.size ≤ w.heap.size + 1 by omega) (.int .i64 0) (.int .i64 (-1)) (.string ⟨#[]⟩) (.int .i64 0) (.int .i64 0) (.string ⟨#[]⟩) (.int .i64 0) (.int .i64 0)
  have hbo := own8 HO8.out (show w.heap.size + 1 < w.heap.size + 2 by omega) (.int .i64 0) (.int .i64 (-1)) (.string ⟨#[]⟩) (.int .i64 0) (.int .i64 0) (.string ⟨#[]⟩) (.int .i64 0) (.int .i64 0)
  exact bodyPost_ret (results_two_row (P := Tryz.prog) (p := 6) (u := 4) (v := 5) (ty := 40) rfl _ _ (w.heap.size + 1) Rs.fine.arr rfl hbk Tryz.underlying40 (by kernel_rfl)) rfl ⟨g6, c6, A8, c8, rfl, own_low hbo (by omega), hbl⟩
end Go.Proofs.YtddieenjdaociaaGreatDoor
namespace Go.Proofs.YtddieenjdaociaaGreatDoor
open Go Go.RowKit Go.Shelf
set_option linter.unusedVariables false

theorem tick_yes (v : Int) (h0 : 0 ≤ v) (h1 : v ≤ 1073741824) (w : World) : Calls Tryz.prog 60 #[.int .i64 v] w fun e w' => e = .returned (.bool true) ∧ w' = w := by
  go_enter Tryz.func60, Tryz.ntmps60
  go_wp2_with fail
  go_ret
  exact ⟨rfl, rfl⟩
theorem advance_ok (now n : Int) (h0 : 0 ≤ now) (h1 : 0 ≤ n) (h2 : now + n ≤ 1073741824) (w : World) : Calls Tryz.prog 30 #[.int .i64 now, .int .i64 n] w fun e w' => e = .returned (.int .i64 (now + n)) ∧ w' = w := by
  have h3 : n ≤ 1073741824 - now := by omega
  go_enter Tryz.func30, Tryz.ntmps30
  go_wp2_with fail
  refine (tick_yes now h0 (by omega) _).mono ?_
  rintro e w1 ⟨rfl, rfl⟩
  go_wp2_with fail
  go_ret
  exact ⟨rfl, rfl⟩
theorem deadline_ok (now ttl : Int) (h0 : 0 ≤ now) (h1 : 1 ≤ ttl) (h2 : now + ttl ≤ 1073741824) (w : World) : Calls Tryz.prog 119 #[.int .i64 now, .int .i64 ttl] w fun e w' => e = .returned (.tuple #[.int .i64 (now + ttl), .int .i64 0]) ∧ w' = w := by
  have h3 : ttl ≤ 1073741824 - now := by omega
  have h4 : ttl ≤ 1073741824 := by omega
  go_enter Tryz.func119, Tryz.ntmps119
  go_wp2_with fail
  refine (tick_yes now h0 (by omega) _).mono ?_
  rintro e w1 ⟨rfl, rfl⟩
  go_wp2_with fail
  go_ret2
  exact ⟨rfl, rfl⟩
/-- Is a record live? -/
def Rc.live (r : Rc) (now : Int) : Bool := decide (r.st = 2 ∨ r.st = 1 ∧ now < r.dl)
@[reducible] def rcA (a b : Int) (s : ByteArray) (d : Int) : Array Value := #[.int .i64 a, .int .i64 b, .string s, .int .i64 d]
theorem box_rc (w : World) (a b : Int) (s : ByteArray) (d : Int) : (w.alloc (.cells (rcA a b s d) 38)).cell? ⟨w.heap.size, 0, none⟩ = some (.int .i64 a) ∧ (w.alloc (.cells (rcA a b s d) 38)).cell? ⟨w.heap.size, 1, none⟩ = some (.int .i64 b) ∧
    (w.alloc (.cells (rcA a b s d) 38)).cell? ⟨w.heap.size, 2, none⟩ = some (.string s) ∧ (w.alloc (.cells (rcA a b s d) 38)).cell? ⟨w.heap.size, 3, none⟩ = some (.int .i64 d) :=
  ⟨(Bk.new w _ _).cell 0, (Bk.new w _ _).cell 1, (Bk.new w _ _).cell 2, (Bk.new w _ _).cell 3⟩
/-- Live at a record that is free or held. -/
theorem live_any (a b : Int) (s : ByteArray) (d now : Int) (ha : a = 0 ∨ a = 1) (w : World) : Calls Tryz.prog 122 #[.agg (rcA a b s d), .int .i64 now] w fun e w' => e = .returned (.bool (Rc.live ⟨a, b, s, d⟩ now)) ∧ Below w.heap.size w w' := by
  rcases ha with rfl | rfl
  · have hl : Rc.live ⟨0, b, s, d⟩ now = false := by unfold Rc.live; simp
    rw [hl]
    obtain ⟨x0, x1, x2, x3⟩ := box_rc w 0 b s d
    go_enter Tryz.func122, Tryz.ntmps122
    go_wp2_with fail
    go_ret
    exact ⟨rfl, (Below.refl _ _).alloc (Nat.le_refl _) _⟩
  · have hl : Rc.live ⟨1, b, s, d⟩ now = decide (now < d) := by unfold Rc.live; simp
    rw [hl]
    obtain ⟨x0, x1, x2, x3⟩ := box_rc w 1 b s d
    go_enter Tryz.func122, Tryz.ntmps122
    go_wp2_with fail
    go_ret
    exact ⟨rfl, (Below.refl _ _).alloc (Nat.le_refl _) _⟩
/-- The sum of some bytes. -/
def sumB (x : Int) (b : UInt8) : Int := bits BinOp.xor IntKind.u32 x ((b.toNat : Int) % 4294967296) * 16777619 % 4294967296
def sumS (l : List UInt8) : Int := l.foldl sumB 2166136261
theorem sumS_snoc (l : List UInt8) (b : UInt8) : sumS (l ++ [b]) = sumB (sumS l) b := by simp [sumS]
theorem sumB_bd (x : Int) (b : UInt8) : 0 ≤ sumB x b ∧ sumB x b < 4294967296 := by
  unfold sumB
  exact ⟨Int.emod_nonneg _ (by decide), Int.emod_lt_of_pos _ (by decide)⟩
theorem sumS_bd (l : List UInt8) : 0 ≤ sumS l ∧ sumS l < 4294967296 := by
  rcases List.eq_nil_or_concat l with rfl | ⟨m, b, rfl⟩
  · decide
  · rw [List.concat_eq_append, sumS_snoc]; exact sumB_bd _ _
theorem sum_any (s : ByteArray) (hs : s.size ≤ 1000000) (w : World) : Calls Tryz.prog 143 #[.string s] w fun e w' => e = .returned (.int .i64 (sumS (lst s))) ∧ Below w.heap.size w w' := by
  obtain ⟨cc, w2, hcv, hbl2, hsz2, hcc, hcells, hfz⟩ := conv_bytes s w
  have HB := Lib.hid hbl2; have HCE := Lib.hid hcells
  clear hbl2 hcells hfz
  go_enter Tryz.func143, Tryz.ntmps143
  go_wp2_with fail
  go_loop [3, 9] (fun vx vi => ∃ (k : Nat), k ≤ s.size ∧ vi = .int .i64 k ∧ vx = .int .u32 (sumS ((lst s).take k))) (fun _ vi => s.size - (intOf vi).toNat)
  case atStart => exact ⟨0, by omega, rfl, rfl⟩
  case round =>
    obtain ⟨k, hk, rfl, rfl⟩ := hrel
    by_cases hlt : k < s.size
    · have hat := lst_at s k hlt
      have hcell := HCE.out k s[k] hat
      have hst : sumS ((lst s).take (k + 1)) = sumB (sumS ((lst s).take k)) s[k] := by
        obtain ⟨q1, q2⟩ := List.getElem?_eq_some_iff.1 hat
        rw [List.take_succ_eq_append_getElem q1, q2, sumS_snoc]
      have HS := Lib.hid hst
      clear hst hat
      go_wp2_with fail
      go_round
      case rel => exact ⟨k + 1, by omega, by go_num, by rw [HS.out]; rfl⟩
      case measure => simp [intOf]; omega
    · obtain rfl : k = s.size := by omega
      rw [List.take_of_length_le (by rw [lst_length]; omega)]
      obtain ⟨b0, b1⟩ := sumS_bd (lst s)
      generalize hy : sumS (lst s) = y at *
      have HY := Lib.hid hy
      clear hy
      go_wp2
      go_ret
      exact ⟨by rw [HY.out]; rfl, HB.out⟩
/-- The slot in which a key is sought first. -/
def homeS (k : ByteArray) (n : Nat) : Nat := (sumS (lst k)).toNat % n
theorem homeS_lt (k : ByteArray) (n : Nat) (h : 0 < n) : homeS k n < n := Nat.mod_lt _ h
theorem home_any (k : ByteArray) (hs : k.size ≤ 1000000) (n : Nat) (h : 0 < n) (hn : n ≤ 1000000) (w : World) : Calls Tryz.prog 117 #[.string k, .int .i64 (n : Int)] w fun e w' => e = .returned (.int .i64 (homeS k n : Nat)) ∧ Below w.heap.size w w' := by
  have HS := Lib.hid (fun w => sum_any k hs w)
  have he : ((homeS k n : Nat) : Int) = sumS (lst k) % (n : Int) := by
    unfold homeS
    have := (sumS_bd (lst k)).1
    rw [Int.natCast_emod, Int.toNat_of_nonneg this]
  have HE := Lib.hid he
  obtain ⟨b0, b1⟩ := sumS_bd (lst k)
  generalize sumS (lst k) = y at *
  generalize homeS k n = z at *
  have h1 : (1 : Int) ≤ n := by omega
  clear he
  go_enter Tryz.func117, Tryz.ntmps117
  go_wp2_with fail
  refine (HS.out _).mono ?_
  rintro e w1 ⟨rfl, hb⟩
  have HB := Lib.hid hb; clear hb
  go_wp2_with fail
  go_ret
  exact ⟨by rw [HE.out]; rfl, HB.out⟩
end Go.Proofs.YtddieenjdaociaaGreatDoor
namespace Go.Proofs.YtddieenjdaociaaGreatDoor
open Go Go.RowKit Go.Shelf
set_option linter.unusedVariables false

theorem toList_eq {a b : ByteArray} (h : a.toList = b.toList) : a = b := by
  rw [ByteArray.toList_eq, ByteArray.toList_eq] at h
  exact ByteArray.ext (Array.toList_inj.1 h)
structure Slt where
  u : Bool
  k : ByteArray
def Slt.none : Slt := ⟨false, ByteArray.empty⟩
def slC (S : List Slt) : List Value := S.flatMap fun s => [.bool s.u, .string s.k]
def slA (S : List Slt) : Array Value := (slC S).toArray
theorem slC_len (S : List Slt) : (slC S).length = S.length * 2 := by
  induction S with
  | nil => rfl
  | cons a r ih => simp [slC] at *; omega
theorem slC_at (S : List Slt) : ∀ (i : Nat) (s : Slt), S[i]? = some s → (slC S)[i * 2]? = some (.bool s.u) ∧ (slC S)[i * 2 + 1]? = some (.string s.k) := by
  induction S with
  | nil => intro i s h; simp at h
  | cons a r ih =>
    intro i s h
    have e : slC (a :: r) = .bool a.u :: .string a.k :: slC r := by simp [slC]
    rw [e]
    cases i with
    | zero => simp at h; subst h; exact ⟨rfl, rfl⟩
    | succ i =>
      simp at h
      obtain ⟨h1, h2⟩ := ih i s h
      rw [show (i + 1) * 2 = i * 2 + 1 + 1 by omega]
      exact ⟨h1, h2⟩
theorem slC_set (S : List Slt) : ∀ (i : Nat) (s : Slt), ((slC S).set (i * 2) (.bool s.u)).set (i * 2 + 1) (.string s.k) = slC (S.set i s) := by
  induction S with
  | nil => intro i s; simp [slC]
  | cons a r ih =>
    intro i s
    have e : ∀ (b : Slt) (q : List Slt), slC (b :: q) = .bool b.u :: .string b.k :: slC q := fun b q => by simp [slC]
    rw [e]
    cases i with
    | zero => simp [e]
    | succ i =>
      rw [show (i + 1) * 2 = i * 2 + 1 + 1 by omega, List.set_cons_succ, List.set_cons_succ, List.set_cons_succ, List.set_cons_succ, List.set_cons_succ, ih i s, e]
/-- Block g is a table of slots. -/
def Slots (w : World) (g : Nat) (S : List Slt) : Prop := Bk w g 163 (slA S)
section
variable {w w' : World} {g : Nat} {S : List Slt}
theorem Slots.lt (h : Slots w g S) : g < w.heap.size := Bk.lt h
theorem Slots.cell (h : Slots w g S) {i : Nat} {s : Slt} (hi : S[i]? = some s) : w.cell? ⟨g, i * 2, none⟩ = some (.bool s.u) ∧ w.cell? ⟨g, i * 2 + 1, none⟩ = some (.string s.k) := by
  obtain ⟨h1, h2⟩ := slC_at S i s hi
  refine ⟨?_, ?_⟩
  · rw [Bk.cell h]; simpa [slA] using h1
  · rw [Bk.cell h]; simpa [slA] using h2
theorem Slots.frozen (h : Slots w g S) (i : Nat) : w.frozen? ⟨g, i, none⟩ = false := Bk.frozen h i
theorem Slots.set (h : Slots w g S) (i : Nat) (s : Slt) : Slots ((w.setCell ⟨g, i * 2, none⟩ (.bool s.u)).setCell ⟨g, i * 2 + 1, none⟩ (.string s.k)) g (S.set i s) := by
  have h2 := Bk.set_ (Bk.set_ h (i * 2) (.bool s.u)) (i * 2 + 1) (.string s.k)
  unfold Slots
  rw [show slA (S.set i s) = ((slA S).setIfInBounds (i * 2) (.bool s.u)).setIfInBounds (i * 2 + 1) (.string s.k) by
    unfold slA
    rw [← slC_set S i s]
    simp]
  exact h2
theorem Slots.below {B : Nat} (h : Slots w g S) (hb : Below B w w') (hg : g < B) : Slots w' g S := Bk.below h hb hg
theorem Slots.far (h : Slots w g S) {p : Addr} (hp : g ≠ p.block) (u : Value) : Slots (w.setCell p u) g S := Bk.far h hp u
theorem Slots.drewN (h : Slots w g S) (n : Nat) : Slots (w.drewN n) g S := h
theorem Slots.drew (h : Slots w g S) : Slots w.drew g S := h
theorem Slots.alloc (h : Slots w g S) (o : Obj) : Slots (w.alloc o) g S := Bk.alloc h o
end

/-- The search from a slot on. -/
def probe (S : List Slt) (key : ByteArray) : Nat → Nat → Nat × Bool
  | 0, i => (i, false)
  | f + 1, i => match S[i]? with
    | some s => if s.u then (if s.k = key then (i, true) else probe S key f ((i + 1) % S.length)) else (i, false)
    | none => (i, false)
def findS (S : List Slt) (key : ByteArray) : Nat × Bool := probe S key (S.length + 1) (homeS key S.length)
theorem probe_free {S : List Slt} {key : ByteArray} {f i : Nat} {s : Slt} (h : S[i]? = some s) (hu : s.u = false) : probe S key (f + 1) i = (i, false) := by
  conv => lhs; unfold probe
  rw [h]; simp [hu]
theorem probe_hit {S : List Slt} {key : ByteArray} {f i : Nat} {s : Slt} (h : S[i]? = some s) (hu : s.u = true) (hk : s.k = key) : probe S key (f + 1) i = (i, true) := by
  conv => lhs; unfold probe
  rw [h]; simp [hu, hk]
theorem probe_on {S : List Slt} {key : ByteArray} {f i : Nat} {s : Slt} (h : S[i]? = some s) (hu : s.u = true) (hk : s.k ≠ key) : probe S key (f + 1) i = probe S key f ((i + 1) % S.length) := by
  conv => lhs; unfold probe
  rw [h]; simp [hu, hk]
/-- How far it is from slot i to slot z. -/
def dist (n i z : Nat) : Nat := (z + n - i) % n
theorem dist_step {n i z : Nat} (hi : i < n) (hz : z < n) (hne : i ≠ z) : dist n ((i + 1) % n) z + 1 = dist n i z := by
  unfold dist
  by_cases h : i + 1 = n
  · rw [h, Nat.mod_self, Nat.sub_zero, Nat.add_mod_right, Nat.mod_eq_of_lt hz]
    rw [Nat.mod_eq_of_lt (show z + n - i < n by omega)]
    omega
  · rw [Nat.mod_eq_of_lt (show i + 1 < n by omega)]
    by_cases hzi : i < z
    · rw [show z + n - (i + 1) = (z - (i + 1)) + n by omega, show z + n - i = (z - i) + n by omega, Nat.add_mod_right, Nat.add_mod_right, Nat.mod_eq_of_lt (by omega), Nat.mod_eq_of_lt (by omega)]
      omega
    · rw [Nat.mod_eq_of_lt (show z + n - (i + 1) < n by omega), Nat.mod_eq_of_lt (show z + n - i < n by omega)]
      omega
theorem dist_lt {n i z : Nat} (hn : 0 < n) : dist n i z < n := Nat.mod_lt _ hn
set_option maxHeartbeats 2000000 in
/-- locks.Find; slot z is unused. -/
theorem find_any (g c n : Nat) (S : List Slt) (key : ByteArray) (w : World) (hS : Slots w g S) (hl : S.length = n) (hn0 : 0 < n) (hn : n ≤ 100000) (hk : key.size ≤ 1000000) (z : Nat) (hz : z < n) (hfree : ∀ s, S[z]? = some s → s.u = false) :
    Calls Tryz.prog 86 #[.slice (some ⟨g, 0, none⟩) n c, .string key] w fun e w' => e = .returned (.tuple #[.int .i64 ((findS S key).1 : Nat), .bool (findS S key).2]) ∧ Below w.heap.size w w' := by
  have HH := Lib.hid (fun w => home_any key hk n hn0 (by omega) w)
  have hfs : findS S key = probe S key (n + 1) (homeS key n) := by unfold findS; rw [hl]
  rw [hfs]
  have hh := homeS_lt key n hn0
  generalize homeS key n = h0 at *
  have HS := Lib.hid hS; have HF := Lib.hid hfree; have HL := Lib.hid hl
  clear hS hfree hl hfs
  go_enter Tryz.func86, Tryz.ntmps86
  go_wp2_with fail
  refine (HH.out _).mono ?_
  rintro e w1 ⟨rfl, hb1⟩
  have HS1 := Lib.hid (HS.out.below hb1 HS.out.lt)
  have HB1 := Lib.hid hb1
  clear hb1
  go_wp2_with fail
  go_loop [6] (fun vi => ∃ (i f : Nat), i < n ∧ vi = .int .i64 (i : Nat) ∧ dist n i z < f ∧ probe S key (n + 1) h0 = probe S key f i) (fun vi => dist n (intOf vi).toNat z)
  case atStart => exact ⟨h0, n + 1, hh, rfl, by have := dist_lt (i := h0) (z := z) hn0; omega, rfl⟩
  case round =>
    obtain ⟨i, f, hi, rfl, hd, hp⟩ := hrel
    have HP := Lib.hid hp
    clear hp
    obtain ⟨f, rfl⟩ : ∃ q, f = q + 1 := ⟨f - 1, by omega⟩
    obtain ⟨s, hs⟩ : ∃ s, S[i]? = some s := ⟨_, List.getElem?_eq_getElem (by rw [HL.out]; exact hi)⟩
    obtain ⟨c0, c1⟩ := HS1.out.cell hs
    have HSI := Lib.hid hs
    clear hs
    cases hu : s.u
    · have HR := Lib.hid (HP.out.trans (probe_free HSI.out hu))
      rw [hu] at c0
      clear hu
      go_wp2_with fail
      go_ret2
      exact ⟨by rw [HR.out]; rfl, HB1.out⟩
    · rw [hu] at c0
      by_cases hkk : s.k = key
      · have HR := Lib.hid (HP.out.trans (probe_hit HSI.out hu hkk))
        rw [hkk] at c1
        clear hu hkk
        have hkb : (key.toList == key.toList) = true := by simp
        go_wp2_with fail
        go_ret2
        exact ⟨by rw [HR.out]; rfl, HB1.out⟩
      · have HR := Lib.hid (HP.out.trans (probe_on HSI.out hu hkk))
        have hiz : i ≠ z := by
          rintro rfl
          have := HF.out s HSI.out
          rw [this] at hu; cases hu
        have hds := dist_step hi hz hiz
        have hkn : (s.k.toList == key.toList) = false := by rw [beq_eq_false_iff_ne]; exact fun e => hkk (toList_eq e)
        have hmm : (((i : Int) + 1) % (n : Int)) = (((i + 1) % n : Nat) : Int) := by rw [Int.natCast_emod]; rfl
        have hml : (i + 1) % n < n := Nat.mod_lt _ hn0
        have HD := Lib.hid hds
        have HMM := Lib.hid hmm
        clear hu hkk hds hmm
        go_wp2_with fail
        rw [HMM.out]
        go_round
        case rel => exact ⟨(i + 1) % n, f, hml, rfl, by have := HD.out; omega, by rw [HR.out, HL.out]⟩
        case measure => have := HD.out; simp only [intOf, Int.toNat_natCast]; omega
end Go.Proofs.YtddieenjdaociaaGreatDoor
