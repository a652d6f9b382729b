/- A machine: Response, Names, key, enter, next. What the machines share; a machine: Begin. -/
import Derived.Test.YtddieenjdaociaaGreatDoorTqKZ
import Derived.StillTailTactics
namespace Go.Proofs.YtddieenjdaociaaGreatDoor
open Go Go.RowKit Go.Shelf
set_option linter.unusedVariables false

theorem run_eql_slice_nil' (w : World) (c : Nat) : (binOp .eql 73 (.slice none 0 c) (.slice none 0 0)).run Tryz.prog w = .ok (.bool true) w :=
  run_eql_nil_slice (P := Tryz.prog) w 73 127 none 0 0 0 c Tryz.underlying73
section
variable {g : Nat} {cl ph : Int} {tx : ByteArray} {op ttl : Int} {nv : Value} {at_ : Int} {rv : Value} {p : Rs} {w : World}
set_option maxRecDepth 100000 in
set_option maxHeartbeats 1000000 in
theorem response_any (h : MAt w g cl ph tx op ttl nv at_ rv p) :
    Calls Tryz.prog 29 #[.pointer (some ⟨g, 0, none⟩)] w fun e w' => e = .returned (.agg p.arr) ∧ Below w.heap.size w w' := by
  have c0 := h.p0; have c1 := h.p1; have c2 := h.p2; have c3 := h.p3; have c4 := h.p4; have c5 := h.p5; have c6 := h.p6; have c7 := h.p7
  have hlt := h.lt
  have HB := Lib.hid (Bk.new w 40 p.arr)
  have HL := Lib.hid ((Below.refl w.heap.size w).alloc (Nat.le_refl _) (.cells p.arr 40))
  clear h
  go_enter Tryz.func29, Tryz.ntmps29
  go_wp2_with fail
  exact bodyPost_ret (results_cell_row (P := Tryz.prog) (p := 2) (ty := 40) rfl _ _ w.heap.size _ _ _ _ rfl HB.out Tryz.underlying40 rfl (by kernel_rfl)) rfl ⟨rfl, HL.out⟩
set_option maxRecDepth 100000 in
set_option maxHeartbeats 1000000 in
theorem enter_any (x : Int) (h : MAt w g cl ph tx op ttl nv at_ rv p) :
    Calls Tryz.prog 58 #[.pointer (some ⟨g, 0, none⟩), .int .i64 x] w fun e w' => e = .returned (.tuple #[]) ∧ MAt w' g cl x tx op ttl nv 0 rv p ∧ Oth [g] w w' := by
  have c1 := h.cph; have c2 := h.cat
  have f1 := h.fr 13; have f2 := h.fr 18
  have H2 := Lib.hid ((h.sph x).sat 0)
  have HO := Lib.hid (((Oth.refl [g] w).setCell (p := ⟨g, 13, none⟩) (.inl (by simp)) (.int .i64 x)).setCell (p := ⟨g, 18, none⟩) (.inl (by simp)) (.int .i64 0))
  clear h
  go_enter Tryz.func58, Tryz.ntmps58
  go_wp2_with fail
  go_end0
  exact ⟨rfl, H2.out, HO.out⟩
set_option maxRecDepth 100000 in
set_option maxHeartbeats 1000000 in
/-- The last name: the next phase. -/
theorem next_last {A : Option Addr} {n c : Nat} (x : Int) (h : MAt w g cl ph tx op ttl (.slice A n c) at_ rv p) (hl : at_ + 1 = n) (h0 : 0 ≤ at_) (hn : n ≤ 1000) :
    Calls Tryz.prog 53 #[.pointer (some ⟨g, 0, none⟩), .int .i64 x] w fun e w' => e = .returned (.int .i64 1) ∧ MAt w' g cl x tx op ttl (.slice A n c) 0 rv p ∧ Oth [g] w w' := by
  have c2 := h.cat
  have f2 := h.fr 18
  have H2 := Lib.hid (h.sat (at_ + 1))
  have HO := Lib.hid ((Oth.refl [g] w).setCell (p := ⟨g, 18, none⟩) (.inl (by simp)) (.int .i64 (at_ + 1)))
  clear h
  have hb : (at_ + 1 == (n : Int)) = true := by simp [hl]
  have hle : at_ ≤ 1000 := by omega
  clear hl
  go_enter Tryz.func53, Tryz.ntmps53
  go_wp2_with fail
  generalize hw1 : w.setCell ⟨g, 18, none⟩ (.int .i64 (at_ + 1)) = w1 at *
  clear hw1 c2 f2
  have c2 := H2.out.cat
  have c3 := H2.out.cnv
  have h1 : IntKind.i64.wrap (at_ + 1) = at_ + 1 := IntWalk.i64_in _ (by omega)
  go_quiet (fail)
  go_wp2_with fail
  refine (enter_any x (show MAt (w1.drewN _) g cl ph tx op ttl (.slice A n c) (at_ + 1) rv p from H2.out)).mono ?_
  rintro e w2 ⟨rfl, hm, ho⟩
  have HM := Lib.hid hm
  have HO2 := Lib.hid ((HO.out.drewN _).trans ho)
  clear hm ho
  go_wp2_with fail
  go_ret
  exact ⟨rfl, HM.out, HO2.out⟩
theorem key_any {A : Option Addr} {c B : Nat} {x : Nm} (h : MAt w g cl ph tx op ttl (.slice A 1 c) 0 rv p) (hn : Rd w B 3 A 1 (nmsC [x])) :
    Calls Tryz.prog 52 #[.pointer (some ⟨g, 0, none⟩)] w fun e w' => e = .returned (.string x.k) ∧ ∃ m, w' = w.drewN m := by
  obtain ⟨b, off, rfl, _, _, _, n2⟩ := nm_cells hn
  have c2 := h.cat
  have c3 := h.cnv
  clear h hn
  go_enter Tryz.func52, Tryz.ntmps52
  go_wp2_with fail
  go_quiet (fail)
  go_wp2_with fail
  go_ret
  exact ⟨rfl, _, rfl⟩
theorem nmsC_nil : nmsC [] = [] := rfl
set_option maxRecDepth 100000 in
set_option maxHeartbeats 1000000 in
/-- slices.Clone of some names (a slice that is nil has none). -/
theorem clone_any {A : Option Addr} {n c B : Nat} {xs : List Nm} {w : World} (hr : Rd w B 3 A n (nmsC xs)) (hB : B ≤ w.heap.size) (hn : n ≤ 1000) :
    Calls Tryz.prog 59 #[.slice A n c] w fun e w' => ∃ A' c', e = .returned (.slice A' n c') ∧ w'.ownsRow w.heap.size 127 3 (.slice A' n c') n (nmsC xs) ∧ Below w.heap.size w w' := by
  cases A with
  | none =>
    have hx : nmsC xs = [] := by
      by_cases h0 : 0 < (nmsC xs).length
      · obtain ⟨b, off, h, _⟩ := hr.2 h0; cases h
      · exact List.eq_nil_of_length_eq_zero (by omega)
    have hn0 : n = 0 := by have := hr.1; rw [hx] at this; simp at this; omega
    subst hn0
    have hnn := fun w : World => run_eql_slice_nil' w c
    have HXS := Lib.hid hx
    clear hr hx
    go_enter Tryz.func59, Tryz.ntmps59
    go_wp2_with fail
    go_ret
    exact ⟨none, 0, rfl, by rw [HXS.out]; exact World.ownsRow_nil _ _ _ _, Below.refl _ _⟩
  | some a =>
    have HR := Lib.hid hr; clear hr
    have hnn : ∀ w : World, (binOp .eql 73 (.slice (some a) n c) (.slice none 0 0)).run Tryz.prog w = .ok (.bool false) w := fun w => run_eql_nil_slice (P := Tryz.prog) w 73 127 (some a) n c 0 0 Tryz.underlying73
    have HE : (w.alloc (.cells #[] 127)).ownsRow w.heap.size 127 3 (.slice (some ⟨w.heap.size, 0, none⟩) 0 0) 0 (nmsC []) :=
      ⟨by simp [nmsC], .inr ⟨w.heap.size, 0, #[], rfl, Nat.le_refl _, heap_alloc_new w _, Nat.le_refl _, by decide, by simp, by simp [nmsC]⟩⟩
    have HE := Lib.hid HE
    have HR2 := Lib.hid (HR.out.alloc hB (.cells #[] 127))
    have HL := Lib.hid ((Below.refl w.heap.size w).alloc (Nat.le_refl _) (.cells #[] 127))
    go_enter Tryz.func59, Tryz.ntmps59
    go_wp2_with (at_builtin; refine app_nm (by rfl) _ _ rfl (base := w.heap.size) (xs := []) rfl HE.out rfl HR2.out (by omega) (by simp) ?_)
    intro A1 c1 w1 ho1 hg1 _
    have ho1 : w1.ownsRow w.heap.size 127 3 (.slice A1 n c1) n (nmsC xs) := by simpa using ho1
    have hb1 : Below w.heap.size w w1 := HL.out.grown hg1 (by simp) (fun g h => by cases h; exact Nat.le_refl _)
    have HO := Lib.hid ho1; have HB := Lib.hid hb1
    clear ho1 hg1 hb1
    go_wp2_with fail
    go_ret
    exact ⟨A1, c1, rfl, by simpa using HO.out, HB.out⟩
theorem names_any {A : Option Addr} {n c B : Nat} {xs : List Nm} (h : MAt w g cl ph tx op ttl (.slice A n c) at_ rv p) (hr : Rd w B 3 A n (nmsC xs)) (hB : B ≤ w.heap.size) (hn : n ≤ 1000) :
    Calls Tryz.prog 28 #[.pointer (some ⟨g, 0, none⟩)] w fun e w' => ∃ A' c', e = .returned (.slice A' n c') ∧ w'.ownsRow w.heap.size 127 3 (.slice A' n c') n (nmsC xs) ∧ Below w.heap.size w w' := by
  have c1 := h.cnv
  have HR := Lib.hid hr
  clear h hr
  go_enter Tryz.func28, Tryz.ntmps28
  go_wp2_with fail
  refine (clone_any HR.out hB hn).mono ?_
  rintro e w1 ⟨A1, k1, rfl, ho, hb⟩
  have HO := Lib.hid ho; have HL := Lib.hid hb
  clear ho hb
  go_wp2_with fail
  go_ret
  exact ⟨A1, k1, rfl, HO.out, HL.out⟩
end
end Go.Proofs.YtddieenjdaociaaGreatDoor
namespace Go.Proofs.YtddieenjdaociaaGreatDoor
open Go Go.RowKit Go.Shelf
set_option linter.unusedVariables false

/-- What the machines share: its cells. -/
def SAt (w : World) (s : Nat) (n lim now cnt : Int) (lk st : Nat) : Prop :=
  Bk w s 89 #[.int .i64 n, .int .i64 lim, .int .i64 now, .int .i64 cnt, .pointer (some ⟨lk, 0, none⟩), .pointer (some ⟨st, 0, none⟩)]
section
variable {w w' : World} {s lk st : Nat} {n lim now cnt : Int}
theorem SAt.bk (h : SAt w s n lim now cnt lk st) : Bk w s 89 #[.int .i64 n, .int .i64 lim, .int .i64 now, .int .i64 cnt, .pointer (some ⟨lk, 0, none⟩), .pointer (some ⟨st, 0, none⟩)] := h
theorem SAt.lt (h : SAt w s n lim now cnt lk st) : s < w.heap.size := h.bk.lt
theorem SAt.fr (h : SAt w s n lim now cnt lk st) (i : Nat) : w.frozen? ⟨s, i, none⟩ = false := h.bk.frozen i
theorem SAt.oth {S : List Nat} (h : SAt w s n lim now cnt lk st) (ho : Oth S w w') (hn : s ∉ S) : SAt w' s n lim now cnt lk st := h.bk.oth ho hn
theorem SAt.c0 (h : SAt w s n lim now cnt lk st) : w.cell? ⟨s, 0, none⟩ = some (.int .i64 n) := h.bk.cell 0
theorem SAt.c1 (h : SAt w s n lim now cnt lk st) : w.cell? ⟨s, 1, none⟩ = some (.int .i64 lim) := h.bk.cell 1
theorem SAt.c2 (h : SAt w s n lim now cnt lk st) : w.cell? ⟨s, 2, none⟩ = some (.int .i64 now) := h.bk.cell 2
theorem SAt.c3 (h : SAt w s n lim now cnt lk st) : w.cell? ⟨s, 3, none⟩ = some (.int .i64 cnt) := h.bk.cell 3
theorem SAt.c4 (h : SAt w s n lim now cnt lk st) : w.cell? ⟨s, 4, none⟩ = some (.pointer (some ⟨lk, 0, none⟩)) := h.bk.cell 4
theorem SAt.c5 (h : SAt w s n lim now cnt lk st) : w.cell? ⟨s, 5, none⟩ = some (.pointer (some ⟨st, 0, none⟩)) := h.bk.cell 5
theorem SAt.snow (h : SAt w s n lim now cnt lk st) (x : Int) : SAt (w.setCell ⟨s, 2, none⟩ (.int .i64 x)) s n lim x cnt lk st := h.bk.set_ 2 _
theorem SAt.scnt (h : SAt w s n lim now cnt lk st) (x : Int) : SAt (w.setCell ⟨s, 3, none⟩ (.int .i64 x)) s n lim now x lk st := h.bk.set_ 3 _
end
set_option maxHeartbeats 1000000 in
theorem shared_ok (a b : Int) (h1 : 1 ≤ a) (h2 : a ≤ 64) (h3 : 1 ≤ b) (h4 : b ≤ 64) (w : World) : Calls Tryz.prog 10 #[.agg #[.int .i64 a, .int .i64 b]] w fun e w' => ∃ s lk ls lo st ss sr, e = .returned (.tuple #[.pointer (some ⟨s, 0, none⟩), .int .i64 0]) ∧
    SAt w' s a b 0 0 lk st ∧ LkAt w' lk ls lo 2048 (freeS 2048) (freeO 2048) 0 ∧ StAt w' st ss sr 16 (freeS 16) (freeR 16) 0 ∧ ls ≠ ss ∧ (∀ i ∈ [s, lk, ls, lo, st, ss, sr], w.heap.size ≤ i) ∧ Below w.heap.size w w' := by
  have HX := Lib.hid (Bk.new w 32 #[.int .i64 a, .int .i64 b])
  have HB := Lib.hid ((Below.refl w.heap.size w).alloc (Nat.le_refl _) (.cells #[.int .i64 a, .int .i64 b] 32))
  go_enter Tryz.func10, Tryz.ntmps10
  have x0 := HX.out.cell 0
  have x1 := HX.out.cell 1
  go_wp2_with fail
  clear x0 x1
  refine (mcheck_ok a b h1 h2 h3 h4 _).mono ?_
  rintro e w1 ⟨rfl, hb⟩
  have HX1 := Lib.hid (HX.out.below hb HX.out.lt)
  have HB1 := Lib.hid (HB.out.trans (hb.mono HB.out.size))
  clear hb HX HB
  go_wp2_with fail
  refine (lnew_2048 _).mono ?_
  rintro e w2 ⟨lk, ls, lo, rfl, hk, g1, g2, g3, hb⟩
  have HX2 := Lib.hid (HX1.out.below hb HX1.out.lt)
  have HB2 := Lib.hid (HB1.out.trans (hb.mono HB1.out.size))
  have hz1 := HB1.out.size
  have HK := Lib.hid hk
  have hls := hk.s.lt
  clear hb HX1 HB1 hk
  go_wp2_with fail
  refine (snew_16 _).mono ?_
  rintro e w3 ⟨st, ss, sr, rfl, hs, g4, g5, g6, hb⟩
  have HX3 := Lib.hid (HX2.out.below hb HX2.out.lt)
  have HB3 := Lib.hid (HB2.out.trans (hb.mono HB2.out.size))
  have hz2 := HB2.out.size
  have HK3 := Lib.hid (HK.out.below hb (Nat.le_refl _))
  have HS := Lib.hid hs
  clear hb HX2 HB2 HK hs
  have x0 := HX3.out.cell 0
  have x1 := HX3.out.cell 1
  go_wp2_with fail
  clear x0 x1
  go_ret2
  have hz3 := HB3.out.size
  refine ⟨_, lk, ls, lo, st, ss, sr, rfl, Bk.new w3 _ _, HK3.out.below ((Below.refl _ _).alloc (Nat.le_refl _) _) (Nat.le_refl _), HS.out.below ((Below.refl _ _).alloc (Nat.le_refl _) _) (Nat.le_refl _), by omega, ?_, HB3.out.alloc HB3.out.size _⟩
  intro i hi
  simp at hi
  omega
theorem pass_any {s lk st : Nat} {n lim now cnt : Int} (d : Int) (w : World) (h : SAt w s n lim now cnt lk st) (h0 : 0 ≤ now) (h1 : now ≤ 1073741824) (hd : 0 ≤ d) (hs : now + d ≤ 1073741823) :
    Calls Tryz.prog 15 #[.pointer (some ⟨s, 0, none⟩), .int .i64 d] w fun e w' => e = .returned (.tuple #[]) ∧ SAt w' s n lim (now + d) cnt lk st ∧ Oth [s] w w' := by
  have c := h.c2
  have f := h.fr 2
  have HH := Lib.hid h
  clear h
  go_enter Tryz.func15, Tryz.ntmps15
  go_wp2_with fail
  refine (advance_ok now d h0 hd (by omega) _).mono ?_
  rintro e w1 ⟨rfl, rfl⟩
  go_wp2_with fail
  go_end0
  exact ⟨rfl, HH.out.snow _, (Oth.refl [s] _).setCell (p := ⟨s, 2, none⟩) (.inl (by simp)) _⟩
section
variable {g : Nat} {cl ph : Int} {tx : ByteArray} {op ttl : Int} {nv : Value} {at_ : Int} {rv : Value} {p : Rs} {w : World}
theorem store_mach {w : World} {g : Nat} {T : TypeId} {cs old : Array Value} (h : Bk w g T old) (hs : cs.size = 28) (ho : old.size = 28) (h1 : cs.all (·.oneCell') = true) :
    (storeVar 80 ⟨g, 0, none⟩ (.agg cs)).run Tryz.prog w = .ok () (w.setRow g cs) :=
  run_storeVar_row (P := Tryz.prog) w g T 80 old cs h (by rw [hs]; kernel_rfl) (by rw [hs, ho]) h1
theorem wpList_store_row {ops : Array Oper} {rest : List Oper} {o : Oper} {a : Act} {w : World} {Q : Exit → Act → World → Prop} (hgd : o.guard = none) (ty : TypeId) (x y : Operand) (ho : o.op = .store ty x y)
    (g : Nat) (cells : Array Value) (hx : a.eval x = .pointer (some ⟨g, 0, none⟩)) (hy : a.eval y = .agg cells)
    (t : TypeId) (old : Array Value) (hg : w.heap[g]? = some (.cells old t (0, 0))) (hi : (Tryz.prog.info? ty).map (·.size) = some cells.size)
    (hold : old.size = cells.size) (h1 : cells.all (·.oneCell') = true)
    (h : wpList Tryz.prog ops Q rest (a.put o.dst undef) (w.setRow g cells)) : wpList Tryz.prog ops Q (o :: rest) a w :=
  wpList_plain hgd fun _ hK => wp_store_row ty x y ho g cells hx hy t old hg hi hold h1 (hK _ _ h)
theorem setRow_bk {w : World} {g : Nat} {T : TypeId} {cs old : Array Value} (h : Bk w g T old) : Bk (w.setRow g cs) g T cs := setRow_heap w g old cs T _ h
theorem setRow_oth {w : World} {g : Nat} {T : TypeId} {cs old : Array Value} (h : Bk w g T old) : Oth [g] w (w.setRow g cs) := by
  refine ⟨rfl, rfl, rfl, by simp [World.setRow], ?_⟩
  intro i hi hn
  have : i ≠ g := by simpa using hn
  simp [World.setRow, Array.getElem?_modify, this.symm]
set_option maxRecDepth 100000 in
set_option maxHeartbeats 4000000 in
theorem mbegin_any (t : ByteArray) (h : MAt w g cl 0 tx op ttl nv at_ rv p) :
    Calls Tryz.prog 49 #[.pointer (some ⟨g, 0, none⟩), .string t] w fun e w' => e = .returned (.int .i64 0) ∧ MAt w' g cl 1 t 0 0 (.slice none 0 0) 0 (.slice none 0 0) Rs.zero ∧ Oth [g] w w' := by
  obtain ⟨x0, x1, x2, x3, x4, x5, x6, x7, x8, x9, x10, x11⟩ := h.t
  have y1 := h.cph
  have y2 := h.ccl
  have hc1 : (mA cl 1 t 0 0 (.slice none 0 0) 0 (.slice none 0 0) Rs.zero).all (·.oneCell') = true := by simp [mA, Value.oneCell']
  have HC := Lib.hid hc1
  have HH := Lib.hid h.bk
  clear h hc1
  go_enter Tryz.func49, Tryz.ntmps49
  go_wp2_with fail
  go_still_tail 12, (by kernel_rfl)
  change wpList _ _ _ _ _ w.drew
  refine wpList_store_row rfl 80 (.tmp 21) (.tmp 20) rfl g (mA cl 1 t 0 0 (.slice none 0 0) 0 (.slice none 0 0) Rs.zero) rfl rfl 80 _ HH.out (by kernel_rfl) rfl HC.out ?_
  generalize hw1 : w.drew.setRow g (mA cl 1 t 0 0 (.slice none 0 0) 0 (.slice none 0 0) Rs.zero) = w1
  have HM := Lib.hid (show Bk w1 g _ _ from hw1 ▸ setRow_bk (w := w.drew) (cs := mA cl 1 t 0 0 (.slice none 0 0) 0 (.slice none 0 0) Rs.zero) HH.out)
  have HS := Lib.hid (show Oth [g] w w1 from hw1 ▸ ((Oth.refl [g] w).drew.trans (setRow_oth (w := w.drew) (cs := mA cl 1 t 0 0 (.slice none 0 0) 0 (.slice none 0 0) Rs.zero) HH.out)))
  go_wp2_with fail
  go_ret
  exact ⟨rfl, HM.out, HS.out⟩
end
end Go.Proofs.YtddieenjdaociaaGreatDoor
