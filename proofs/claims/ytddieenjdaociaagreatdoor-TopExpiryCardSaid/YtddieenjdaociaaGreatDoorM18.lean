/- The desk: begin. The desk: pick of a client that is idle and whose box holds a text. The desk: a text is put into a client's box. The desk: how many its operations are. The desk: the cells of the last operation are written. The desk: pick of a client that is busy. -/
import Derived.Test.YtddieenjdaociaaGreatDoorM17
import Derived.Test.YtddieenjdaociaaGreatDoorMailZ
import Derived.Deep.RegionHeld3
import Derived.StillTailTactics
namespace Go.Proofs.YtddieenjdaociaaGreatDoor
open Go Go.RowKit Go.Shelf
set_option linter.unusedVariables false

theorem Bk.nech {w : World} {g b ch cap : Nat} {t : TypeId} {cs : Array Value} {l : List ByteArray} (h : Bk w g t cs) (hb : Box w b ch cap l) : g ≠ ch := by
  rintro rfl
  obtain ⟨_, s, r, h2⟩ := hb
  have := h.symm.trans h2
  injection this with e
  cases e
theorem Bk.nebox {w : World} {g b ch cap : Nat} {t : TypeId} {cs : Array Value} {l : List ByteArray} (h : Bk w g t cs) (hb : Box w b ch cap l) (ht : t ≠ 92) : g ≠ b := Bk.ne h hb.1 ht
theorem own_oth2 {w w' : World} {base : Nat} {e : TypeId} {size n : Nat} {v : Value} {xs : List Value} {S : List Nat} (h : w.ownsRow base e size v n xs) (ho : Oth S w w') (hS : ∀ g cs, Bk w g e cs → g ∉ S) : w'.ownsRow base e size v n xs := by
  refine ⟨h.1, ?_⟩
  rcases h.2 with h2 | ⟨g, cap, cur, h1, h2, h3, h4⟩
  · exact .inl h2
  · exact .inr ⟨g, cap, cur, h1, h2, ho.heap h3 (hS g cur h3), h4⟩
def rowL : Option Addr → List Nat
  | some a => [a.block]
  | none => []
theorem own_blk {w : World} {base : Nat} {e : TypeId} {size n c : Nat} {A : Option Addr} {xs : List Value} (h : w.ownsRow base e size (.slice A n c) n xs) : ∀ g ∈ rowL A, ∃ cs, Bk w g e cs := by
  intro g hg
  rcases h.2 with ⟨h1, _⟩ | ⟨g', cap, cur, h1, h2, h3, h4⟩
  · injection h1 with e1 _ _; subst e1; simp [rowL] at hg
  · injection h1 with e1 _ _; subst e1; simp [rowL] at hg; subst hg; exact ⟨cur, h3⟩
theorem row_no {w : World} {base : Nat} {e t : TypeId} {size n c d : Nat} {A : Option Addr} {xs : List Value} {cs : Array Value} (h : w.ownsRow base e size (.slice A n c) n xs) (hd : Bk w d t cs) (ht : t ≠ e) : d ∉ rowL A := by
  intro hm
  obtain ⟨cs', hb⟩ := own_blk h d hm
  exact Bk.ne hd hb ht rfl
theorem Box.oth {w w' : World} {b ch cap : Nat} {l : List ByteArray} {S : List Nat} (h : Box w b ch cap l) (ho : Oth S w w') (h1 : b ∉ S) (h2 : ch ∉ S) : Box w' b ch cap l := by
  obtain ⟨a, s, r, c⟩ := h
  exact ⟨ho.heap a h1, s, r, ho.heap c h2⟩
theorem row_nobox {w : World} {base : Nat} {e : TypeId} {size n c b ch cap : Nat} {A : Option Addr} {xs : List Value} {l : List ByteArray} (h : w.ownsRow base e size (.slice A n c) n xs) (hb : Box w b ch cap l) (ht : e ≠ 92) : b ∉ rowL A ∧ ch ∉ rowL A :=
  ⟨fun hm => by obtain ⟨cs', h1⟩ := own_blk h b hm; exact h1.nebox hb ht rfl, fun hm => by obtain ⟨cs', h1⟩ := own_blk h ch hm; exact h1.nech hb rfl⟩
set_option maxRecDepth 100000 in
set_option maxHeartbeats 4000000 in
theorem begin_yes {w : World} {d s cw n c c0 b ch cap m i base k : Nat} {steps o cl : Int} {ov : Value} {t tx : ByteArray} {op ttl at_ : Int} {nv rv : Value} {p : Rs} {xs : List Opn} (tick : Int)
    (h : DAt w d s (.slice (some ⟨cw, 0, none⟩) n c) steps ov) (hi : i < n) (hn : n ≤ 64) (hcell : w.cell? ⟨cw, i, none⟩ = some (.pointer (some ⟨c0, 0, none⟩))) (hc : CAt w c0 b m o) (hb : Box w b ch cap [t])
    (hm : MAt w m cl 0 tx op ttl nv at_ rv p) (A : Option Addr) (kc : Nat) (hov : ov = .slice A k kc) (hk : k ≤ 100) (hown : w.ownsRow base 75 23 ov k (opC xs)) (hbase : base ≤ w.heap.size) :
    Calls Tryz.prog 25 #[.pointer (some ⟨d, 0, none⟩), .int .i64 (i : Int), .int .i64 tick] w fun e w' => ∃ A' c', e = .returned (.bool true) ∧
      DAt w' d s (.slice (some ⟨cw, 0, none⟩) n c) steps (.slice A' (k + 1) c') ∧ CAt w' c0 b m (k : Int) ∧ Box w' b ch cap [] ∧ MAt w' m cl 1 t 0 0 (.slice none 0 0) 0 (.slice none 0 0) Rs.zero ∧
      w'.ownsRow base 75 23 (.slice A' (k + 1) c') (k + 1) (opC (xs ++ [⟨(i : Int), 0, 0, none, 0, 0, Rs.zero, tick, -1, -1, Rs.zero⟩])) ∧ Oth (ch :: m :: c0 :: d :: rowL A) w w' := by
  subst hov
  have y1 := h.c1; have y3 := h.c3; have z0 := hc.c0; have z1 := hc.c1
  have HD := Lib.hid h; have HC := Lib.hid hc; have HBX := Lib.hid hb; have HM := Lib.hid hm; have HO := Lib.hid hown
  clear h hc hb hm hown
  go_enter Tryz.func25, Tryz.ntmps25
  go_wp2_with fail
  have hcd : c0 ≠ d := Bk.ne HC.out.bk HD.out.bk (by decide)
  have hmd : m ≠ d := Bk.ne HM.out.bk HD.out.bk (by decide)
  have hmc : m ≠ c0 := Bk.ne HM.out.bk HC.out.bk (by decide)
  have hdch : d ≠ ch := HD.out.bk.nech HBX.out
  have hcch : c0 ≠ ch := HC.out.bk.nech HBX.out
  have hmch : m ≠ ch := HM.out.bk.nech HBX.out
  refine (take_yes b ch cap t [] w HBX.out).mono ?_
  rintro e w1 ⟨rfl, hb1, hg1⟩
  have ho1 : Oth [ch] w w1 := (Oth.refl [ch] w).grown hg1 (fun g e => by cases e; exact .inl (by simp))
  have HBX1 := Lib.hid hb1
  have HD1 := Lib.hid (HD.out.oth ho1 (by simpa using hdch))
  have HC1 := Lib.hid (HC.out.oth ho1 (by simpa using hcch))
  have HM1 := Lib.hid (HM.out.oth ho1 (by simpa using hmch))
  have HO1 := Lib.hid (own_oth2 HO.out ho1 (by intro g cs hg; simpa using hg.nech HBX.out))
  have HW1 := Lib.hid ho1
  clear hb1 hg1 ho1 y1 y3 z0 z1 hcell
  have z0 := HC1.out.c0; have z1 := HC1.out.c1
  go_wp2_with fail
  refine (mbegin_any t HM1.out).mono ?_
  rintro e w2 ⟨rfl, hm2, ho2⟩
  have HM2 := Lib.hid hm2
  have HD2 := Lib.hid (HD1.out.oth ho2 (by simpa using hmd.symm))
  have HC2 := Lib.hid (HC1.out.oth ho2 (by simpa using hmc.symm))
  have HO2 := Lib.hid (own_oth2 HO1.out ho2 (by intro g cs hg; simpa using Bk.ne hg HM1.out.bk (by decide)))
  have HW2 := Lib.hid ho2
  clear hm2 ho2 z0 z1
  have y3 := HD2.out.c3
  have z2 := HC2.out.c2
  have zf := HC2.out.fr 2
  go_upto_region 8 with (fail)
  have ho3 : Oth [c0] w2 (w2.setCell ⟨c0, 2, none⟩ (.int .i64 (k : Int))) := (Oth.refl [c0] w2).setCell (p := ⟨c0, 2, none⟩) (.inl (by simp)) _
  have HC3 := Lib.hid (HC2.out.so (k : Int))
  have HD3 := Lib.hid (HD2.out.oth ho3 (by simpa using hcd.symm))
  have HM3 := Lib.hid (HM2.out.oth ho3 (by simpa using hmc))
  have HO3 := Lib.hid (own_oth2 HO2.out ho3 (by intro g cs hg; simpa using Bk.ne hg HC2.out.bk (by decide)))
  have HW3 := Lib.hid ho3
  generalize hw3 : w2.setCell ⟨c0, 2, none⟩ (.int .i64 (k : Int)) = w3 at *
  clear hw3 y3 z2 zf ho3
  have y3 := HD3.out.c3
  have yf := HD3.out.fr 3
  have hsz : base ≤ w3.heap.size := Nat.le_trans hbase (Nat.le_trans HW1.out.size (Nat.le_trans HW2.out.size HW3.out.size))
  have HO4 := Lib.hid (HO3.out.alloc (.cells (Opn.cells ⟨(i : Int), 0, 0, none, 0, 0, Rs.zero, tick, -1, -1, Rs.zero⟩).toArray 75))
  go_wp2_with (at_builtin; refine app_opn (by rfl) _ _ rfl (base := base) (xs := xs) rfl HO4.out rfl (rd_one_opn (z := w3.heap.size) rfl ⟨(i : Int), 0, 0, none, 0, 0, Rs.zero, tick, -1, -1, Rs.zero⟩) (by omega) (by simp; omega) ?_)
  intro A4 c4 w4 ho4 hg4 _
  have hal : Oth (rowL A) w3 w4 := ((Oth.refl (rowL A) w3).alloc _).grown hg4 (fun g e => by cases A with
    | none => cases e
    | some a => simp [Value.ownBlock] at e; exact .inl (by simp [rowL, e]))
  have HBX3 := Lib.hid ((HBX1.out.oth HW2.out (by simpa using (HM1.out.bk.nebox HBX1.out (by decide)).symm) (by simpa using hmch.symm)).oth HW3.out (by simpa using (HC2.out.bk.nebox (HBX1.out.oth HW2.out (by simpa using (HM1.out.bk.nebox HBX1.out (by decide)).symm) (by simpa using hmch.symm)) (by decide)).symm) (by simpa using hcch.symm))
  have HD4 := Lib.hid (HD3.out.oth hal (row_no HO3.out HD3.out.bk (by decide)))
  have HC4 := Lib.hid (HC3.out.oth hal (row_no HO3.out HC3.out.bk (by decide)))
  have HM4 := Lib.hid (HM3.out.oth hal (row_no HO3.out HM3.out.bk (by decide)))
  have HBX4 := Lib.hid (HBX3.out.oth hal (row_nobox HO3.out HBX3.out (by decide)).1 (row_nobox HO3.out HBX3.out (by decide)).2)
  have HO5 := Lib.hid ho4
  have HW4 := Lib.hid hal
  clear ho4 hg4 hal y3 yf HO4
  have y3 := HD4.out.c3
  have yf := HD4.out.fr 3
  go_wp2_with fail
  go_ret
  have hod : Oth [d] w4 (w4.setCell ⟨d, 3, none⟩ (.slice A4 (k + 1) c4)) := (Oth.refl [d] w4).setCell (p := ⟨d, 3, none⟩) (.inl (by simp)) _
  refine ⟨A4, c4, rfl, HD4.out.sov _, HC4.out.oth hod (by simpa using hcd), HBX4.out.oth hod (by simpa using (HD4.out.bk.nebox HBX4.out (by decide)).symm) (by simpa using hdch.symm), HM4.out.oth hod (by simpa using hmd), own_oth2 HO5.out hod (by intro g cs hg; simpa using Bk.ne hg HD4.out.bk (by decide)), ?_⟩
  exact ((((HW1.out.more (by simp)).trans (HW2.out.more (by simp))).trans (HW3.out.more (by simp))).trans (HW4.out.more (by simp +contextual))).trans (hod.more (by simp))
end Go.Proofs.YtddieenjdaociaaGreatDoor
namespace Go.Proofs.YtddieenjdaociaaGreatDoor
open Go Go.RowKit Go.Shelf
set_option linter.unusedVariables false

set_option maxRecDepth 100000 in
set_option maxHeartbeats 4000000 in
theorem pick_begin {w : World} {d s cw n c c0 b ch cap m i base k : Nat} {steps o cl : Int} {ov : Value} {t tx : ByteArray} {op ttl at_ : Int} {nv rv : Value} {p : Rs} {xs : List Opn} (tick : Int)
    (h : DAt w d s (.slice (some ⟨cw, 0, none⟩) n c) steps ov) (hi : i < n) (hn : n ≤ 64) (hcell : w.cell? ⟨cw, i, none⟩ = some (.pointer (some ⟨c0, 0, none⟩))) (hc : CAt w c0 b m o) (hb : Box w b ch cap [t])
    (hm : MAt w m cl 0 tx op ttl nv at_ rv p) (A : Option Addr) (kc : Nat) (hov : ov = .slice A k kc) (hk : k ≤ 100) (hown : w.ownsRow base 75 23 ov k (opC xs)) (hbase : base ≤ w.heap.size) :
    Calls Tryz.prog 14 #[.pointer (some ⟨d, 0, none⟩), .int .i64 (i : Int), .int .i64 tick] w fun e w' => ∃ A' c', e = .returned (.bool true) ∧
      DAt w' d s (.slice (some ⟨cw, 0, none⟩) n c) steps (.slice A' (k + 1) c') ∧ CAt w' c0 b m (k : Int) ∧ Box w' b ch cap [] ∧ MAt w' m cl 1 t 0 0 (.slice none 0 0) 0 (.slice none 0 0) Rs.zero ∧
      w'.ownsRow base 75 23 (.slice A' (k + 1) c') (k + 1) (opC (xs ++ [⟨(i : Int), 0, 0, none, 0, 0, Rs.zero, tick, -1, -1, Rs.zero⟩])) ∧ Oth (ch :: m :: c0 :: d :: rowL A) w w' := by
  have y1 := h.c1; have z1 := hc.c1
  have HB := Lib.hid (begin_yes tick h hi hn hcell hc hb hm A kc hov hk hown hbase)
  have HM := Lib.hid hm
  clear h hc hb hm hown
  go_enter Tryz.func14, Tryz.ntmps14
  go_wp2_with fail
  refine (phase_any m cl 0 tx op ttl nv at_ rv p w HM.out).mono ?_
  rintro e w1 ⟨rfl, rfl⟩
  go_wp2_with fail
  refine HB.out.mono ?_
  rintro e w2 ⟨A', c', rfl, h1, h2, h3, h4, h5, h6⟩
  have H1 := Lib.hid h1; have H2 := Lib.hid h2; have H3 := Lib.hid h3; have H4 := Lib.hid h4; have H5 := Lib.hid h5; have H6 := Lib.hid h6
  clear h1 h2 h3 h4 h5 h6
  go_wp2_with fail
  go_ret
  exact ⟨A', c', rfl, H1.out, H2.out, H3.out, H4.out, H5.out, H6.out⟩
end Go.Proofs.YtddieenjdaociaaGreatDoor
namespace Go.Proofs.YtddieenjdaociaaGreatDoor
open Go Go.RowKit Go.Shelf
set_option linter.unusedVariables false

set_option maxRecDepth 100000 in
set_option maxHeartbeats 4000000 in
theorem do_send {w : World} {d s cw n c c0 b ch m i : Nat} {steps o : Int} {ov : Value} (t : ByteArray) (h : DAt w d s (.slice (some ⟨cw, 0, none⟩) n c) steps ov) (hi : i < n) (hn : n ≤ 64)
    (hcell : w.cell? ⟨cw, i, none⟩ = some (.pointer (some ⟨c0, 0, none⟩))) (hc : CAt w c0 b m o) (hb : Box w b ch 8 []) (ht : t.size ≤ 4096) (hst : 0 ≤ steps ∧ steps ≤ 1000000) (hcwd : cw ≠ d) (hcw : cw < w.heap.size) (hcch : cw ≠ ch) :
    Calls Tryz.prog 6 #[.pointer (some ⟨d, 0, none⟩), .agg #[.int .i64 1, .int .i64 (i : Int), .int .i64 0, .string t]] w fun e w' => e = .returned (.int .i64 0) ∧ DAt w' d s (.slice (some ⟨cw, 0, none⟩) n c) (steps + 1) ov ∧ Box w' b ch 8 [t] ∧ Oth [d, ch] w w' := by
  have hdc : d ≠ c0 := Bk.ne h.bk hc.bk (by decide)
  have hdb : d ≠ b := h.bk.nebox hb (by decide)
  have hdch : d ≠ ch := h.bk.nech hb
  have hcch0 : c0 ≠ ch := hc.bk.nech hb
  have HB := Lib.hid ((Below.refl w.heap.size w).alloc (Nat.le_refl _) (.cells #[.int .i64 1, .int .i64 (i : Int), .int .i64 0, .string t] 36))
  have HX := Lib.hid (Bk.new w 36 #[.int .i64 1, .int .i64 (i : Int), .int .i64 0, .string t])
  have HD := Lib.hid (show DAt _ d s (.slice (some ⟨cw, 0, none⟩) n c) steps ov from Bk.below h HB.out h.lt)
  have HC := Lib.hid (show CAt _ c0 b m o from Bk.below hc HB.out hc.lt)
  have HBX := Lib.hid (hb.oth (Oth.below (S := []) HB.out (Nat.le_refl _)) (by simp) (by simp))
  have HCW := Lib.hid ((HB.out.cell (p := ⟨cw, i, none⟩) hcw).trans hcell)
  have hdl := h.lt; have hcl := hc.lt; have hbl := hb.lt
  clear h hc hb hcell
  have hwr : IntKind.i64.wrap (steps + 1) = steps + 1 := IntWalk.i64_in _ (by omega)
  go_enter Tryz.func6, Tryz.ntmps6
  go_upto_region 1 with (fail)
  generalize hw1 : w.alloc (.cells #[.int .i64 1, .int .i64 (i : Int), .int .i64 0, .string t] 36) = w1 at *
  have x0 := HX.out.cell 0; have x1 := HX.out.cell 1; have x2 := HX.out.cell 2; have x3 := HX.out.cell 3
  have y0 := HD.out.c0; have y2 := HD.out.c2
  have f2 := HD.out.fr 2
  have hx : w.heap.size ≠ d := Nat.ne_of_gt hdl
  go_upto_region 6 with (fail)
  have ho2 : Oth [d] w1 (w1.setCell ⟨d, 2, none⟩ (.int .i64 (steps + 1))) := (Oth.refl [d] w1).setCell (p := ⟨d, 2, none⟩) (.inl (by simp)) _
  have HD2 := Lib.hid (HD.out.sstep (steps + 1))
  have HC2 := Lib.hid (HC.out.oth ho2 (by simpa using hdc.symm))
  have HBX2 := Lib.hid (HBX.out.oth ho2 (by simpa using hdb.symm) (by simpa using hdch.symm))
  have HX2 := Lib.hid (Bk.far HX.out (p := ⟨d, 2, none⟩) hx (.int .i64 (steps + 1)))
  have HCW2 := Lib.hid ((ho2.cell (p := ⟨cw, i, none⟩) (Nat.lt_of_lt_of_le hcw HB.out.size) (by simpa using hcwd)).trans HCW.out)
  have HO2 := Lib.hid ((Oth.below (S := [d, ch]) HB.out (Nat.le_refl _)).trans (ho2.more (T := [d, ch]) (by simp)))
  generalize hw2 : w1.setCell ⟨d, 2, none⟩ (.int .i64 (steps + 1)) = w2 at *
  clear x0 x1 x2 x3 y0 y2 f2 hw1 hw2 ho2 HD HC HBX HX HCW
  have x1 := HX2.out.cell 1; have x3 := HX2.out.cell 3
  have y1 := HD2.out.c1; have z0 := HC2.out.c0; have q0 := HCW2.out
  go_wp2_with fail
  refine (has_yes (i : Int) HD2.out (by omega) (by omega) (by omega)).mono ?_
  rintro e w3 ⟨rfl, rfl⟩
  go_wp2_with fail
  have hlen : ¬ (4096 : Int) < (t.size : Int) := by omega
  have hch : ch < w.heap.size := hbl.2.1
  go_region_held3 (fun w' => w'.cell? ⟨w.heap.size, 1, none⟩ = some (.int .i64 (i : Int)) ∧ w'.cell? ⟨w.heap.size, 3, none⟩ = some (.string t) ∧ w'.cell? ⟨d, 1, none⟩ = some (.slice (some ⟨cw, 0, none⟩) n c) ∧ w'.cell? ⟨cw, i, none⟩ = some (.pointer (some ⟨c0, 0, none⟩)) ∧ w'.cell? ⟨c0, 0, none⟩ = some (.pointer (some ⟨b, 0, none⟩)))
    (first
      | with_reducible exact HS3.out
      | exact ⟨x1, x3, y1, q0, z0⟩
      | go_keep
      | fail)
    (first
      | (go_at_call 13; refine (put_yes b ch 8 [] t w3.drew (by exact HBX2.out) (by decide)).mono ?_; rintro e w4 ⟨rfl, hb4, hg4⟩; have HO4 := Lib.hid (show Oth [ch] w3.drew w4 from (Oth.refl [ch] w3.drew).grown hg4 (fun g e => by cases e; exact .inl (by simp))); have HS3 := Lib.hid (show w4.cell? ⟨w.heap.size, 1, none⟩ = some (.int .i64 (i : Int)) ∧ w4.cell? ⟨w.heap.size, 3, none⟩ = some (.string t) ∧ w4.cell? ⟨d, 1, none⟩ = some (.slice (some ⟨cw, 0, none⟩) n c) ∧ w4.cell? ⟨cw, i, none⟩ = some (.pointer (some ⟨c0, 0, none⟩)) ∧ w4.cell? ⟨c0, 0, none⟩ = some (.pointer (some ⟨b, 0, none⟩)) from ⟨(HO4.out.cell (p := ⟨w.heap.size, 1, none⟩) HX2.out.lt (by simp; omega)).trans x1, (HO4.out.cell (p := ⟨w.heap.size, 3, none⟩) HX2.out.lt (by simp; omega)).trans x3, (HO4.out.cell (p := ⟨d, 1, none⟩) HD2.out.lt (by simpa using hdch)).trans y1, (HO4.out.cell (p := ⟨cw, i, none⟩) (Nat.lt_of_lt_of_le hcw HO2.out.size) (by simpa using hcch)).trans q0, (HO4.out.cell (p := ⟨c0, 0, none⟩) HC2.out.lt (by simpa using hcch0)).trans z0⟩)))
  have HD4 := Lib.hid (DAt.oth (show DAt w3.drew d s (.slice (some ⟨cw, 0, none⟩) n c) (steps + 1) ov from HD2.out) HO4.out (by simpa using hdch))
  have HW4 := Lib.hid ((HO2.out.drew).trans (HO4.out.more (T := [d, ch]) (by simp)))
  have HB4 := Lib.hid hb4
  clear x1 x3 y1 q0 z0 hb4 hg4 HS3 hlen
  go_wp2_with fail
  go_ret
  exact ⟨rfl, HD4.out, HB4.out, HW4.out⟩
end Go.Proofs.YtddieenjdaociaaGreatDoor
namespace Go.Proofs.YtddieenjdaociaaGreatDoor
open Go Go.RowKit Go.Shelf
set_option linter.unusedVariables false

theorem opC_at (l : List Opn) : ∀ (i : Nat) (o : Opn), l[i]? = some o → ∀ j, j < 23 → (opC l)[i * 23 + j]? = o.cells[j]? := by
  induction l with
  | nil => intro i o h; simp at h
  | cons a r ih =>
    intro i o h j hj
    have e : opC (a :: r) = a.cells ++ opC r := by simp [opC]
    rw [e]
    cases i with
    | zero =>
      simp at h; subst h
      rw [List.getElem?_append_left (by rw [Opn.cells_length]; omega)]
      simp
    | succ i =>
      simp at h
      rw [List.getElem?_append_right (by rw [Opn.cells_length]; omega), Opn.cells_length, show (i + 1) * 23 + j - 23 = i * 23 + j by omega]
      exact ih i o h j hj
/-- The cells of the last operation. -/
theorem last_cell {w : World} {base k c : Nat} {A : Option Addr} {xs : List Opn} {o : Opn} (h : w.ownsRow base 75 23 (.slice A (k + 1) c) (k + 1) (opC (xs ++ [o]))) (hx : xs.length = k) :
    ∃ g, A = some ⟨g, 0, none⟩ ∧ base ≤ g ∧ ∀ j v, o.cells[j]? = some v → w.cell? ⟨g, k * 23 + j, none⟩ = some v := by
  rcases h.2 with ⟨_, h0⟩ | ⟨g, cap, cur, h1, h2, h3, h4, h5, h6, h7⟩
  · omega
  · injection h1 with e1 _ _
    refine ⟨g, e1, h2, ?_⟩
    intro j v hv
    have hj : j < 23 := by
      have := (List.getElem?_eq_some_iff.1 hv).1
      rwa [Opn.cells_length] at this
    have h8 := opC_at (xs ++ [o]) k o (by simp [← hx]) j hj
    rw [hv, ← h7, List.getElem?_take] at h8
    split at h8
    · have : cur[k * 23 + j]? = some v := by simpa using h8
      rw [cell_of_row w g _ cur _ _ h3]
      exact this
    · cases h8
end Go.Proofs.YtddieenjdaociaaGreatDoor
namespace Go.Proofs.YtddieenjdaociaaGreatDoor
open Go Go.RowKit Go.Shelf
set_option linter.unusedVariables false

theorem own_set {w : World} {base size n c g : Nat} {e : TypeId} {xs : List Value} (h : w.ownsRow base e size (.slice (some ⟨g, 0, none⟩) n c) n xs) (i : Nat) (u : Value) :
    (w.setCell ⟨g, i, none⟩ u).ownsRow base e size (.slice (some ⟨g, 0, none⟩) n c) n (xs.set i u) := by
  rcases h.2 with ⟨h1, _⟩ | ⟨g', cap, cur, h1, h2, h3, h4, h5, h6, h7⟩
  · cases h1
  · injection h1 with e1 _ e3
    injection e1 with e1; injection e1 with e1 _ _
    subst e1
    refine ⟨by simp [h.1], .inr ⟨g, cap, cur.setIfInBounds i u, by rw [e3], h2, Bk.set_ h3 i u, h4, h5, by simp [h6], ?_⟩⟩
    rw [← h7, Array.toList_setIfInBounds, List.take_set]
theorem own_mono {w : World} {base base' size n : Nat} {e : TypeId} {v : Value} {xs : List Value} (h : w.ownsRow base e size v n xs) (hb : base' ≤ base) : w.ownsRow base' e size v n xs :=
  ⟨h.1, h.2.imp id fun ⟨g, cap, cur, a, b, c⟩ => ⟨g, cap, cur, a, Nat.le_trans hb b, c⟩⟩
theorem own_cellv {w : World} {base size n c g : Nat} {e : TypeId} {xs : List Value} (h : w.ownsRow base e size (.slice (some ⟨g, 0, none⟩) n c) n xs) {i : Nat} {v : Value} (hv : xs[i]? = some v) : w.cell? ⟨g, i, none⟩ = some v ∧ w.frozen? ⟨g, i, none⟩ = false := by
  rcases h.2 with ⟨h1, _⟩ | ⟨g', cap, cur, h1, h2, h3, h4, h5, h6, h7⟩
  · cases h1
  · injection h1 with e1 _ e3
    injection e1 with e1; injection e1 with e1 _ _
    subst e1
    refine ⟨?_, Bk.frozen h3 i⟩
    rw [Bk.cell h3]
    rw [← h7, List.getElem?_take] at hv
    split at hv
    · simpa using hv
    · cases hv
theorem opC_set (xs : List Opn) (o o' : Opn) (j : Nat) (v : Value) (ho : o'.cells = o.cells.set j v) : (opC (xs ++ [o])).set (xs.length * 23 + j) v = opC (xs ++ [o']) := by
  have e : ∀ y : Opn, opC (xs ++ [y]) = opC xs ++ y.cells := by intro y; simp [opC]
  rw [e, e, List.set_append_right _ _ (by rw [opC_length]; omega), opC_length, ho, show xs.length * 23 + j - xs.length * 23 = j by omega]
theorem opC_last (xs : List Opn) (o : Opn) (j : Nat) : (opC (xs ++ [o]))[xs.length * 23 + j]? = o.cells[j]? := by
  have e : opC (xs ++ [o]) = opC xs ++ o.cells := by simp [opC]
  rw [e, List.getElem?_append_right (by rw [opC_length]; omega), opC_length, show xs.length * 23 + j - xs.length * 23 = j by omega]
/-- A store into the last operation. -/
theorem row_set {w : World} {base n c g : Nat} {xs : List Opn} {o : Opn} (h : w.ownsRow base 75 23 (.slice (some ⟨g, 0, none⟩) n c) n (opC (xs ++ [o]))) (o' : Opn) (j : Nat) (v : Value) (ho : o'.cells = o.cells.set j v) {k : Nat} (hx : xs.length = k) :
    (w.setCell ⟨g, k * 23 + j, none⟩ v).ownsRow base 75 23 (.slice (some ⟨g, 0, none⟩) n c) n (opC (xs ++ [o'])) := by
  have h1 := own_set h (k * 23 + j) v
  subst hx
  rwa [opC_set xs o o' j v ho] at h1
theorem row_cell {w : World} {base n c g : Nat} {xs : List Opn} {o : Opn} (h : w.ownsRow base 75 23 (.slice (some ⟨g, 0, none⟩) n c) n (opC (xs ++ [o]))) {k : Nat} (hx : xs.length = k) (j : Nat) {v : Value} (hv : o.cells[j]? = some v) :
    w.cell? ⟨g, k * 23 + j, none⟩ = some v ∧ w.frozen? ⟨g, k * 23 + j, none⟩ = false := by
  subst hx
  exact own_cellv h (by rw [opC_last]; exact hv)
theorem row_set8 {w : World} {base n c g : Nat} {xs : List Opn} {o : Opn} (h : w.ownsRow base 75 23 (.slice (some ⟨g, 0, none⟩) n c) n (opC (xs ++ [o]))) (p : Rs) {k : Nat} (hx : xs.length = k) :
    ((((((((w.setCell ⟨g, k * 23 + 15, none⟩ (.int .i64 p.err)).setCell ⟨g, k * 23 + 15 + 1, none⟩ (.int .i64 p.at_)).setCell ⟨g, k * 23 + 15 + 2, none⟩ (.string p.nm)).setCell ⟨g, k * 23 + 15 + 3, none⟩ (.int .i64 p.rc.st)).setCell ⟨g, k * 23 + 15 + 4, none⟩ (.int .i64 p.rc.ow)).setCell ⟨g, k * 23 + 15 + 5, none⟩ (.string p.rc.nm)).setCell ⟨g, k * 23 + 15 + 6, none⟩ (.int .i64 p.rc.dl)).setCell ⟨g, k * 23 + 15 + 7, none⟩ (.int .i64 p.tk)).ownsRow base 75 23 (.slice (some ⟨g, 0, none⟩) n c) n (opC (xs ++ [{ o with rsp := p }])) := by
  have h1 := row_set h { o with rsp := { o.rsp with err := p.err } } 15 (.int .i64 p.err) rfl hx
  have h2 := row_set h1 { o with rsp := { o.rsp with err := p.err, at_ := p.at_ } } 16 (.int .i64 p.at_) rfl hx
  have h3 := row_set h2 { o with rsp := { o.rsp with err := p.err, at_ := p.at_, nm := p.nm } } 17 (.string p.nm) rfl hx
  have h4 := row_set h3 { o with rsp := { o.rsp with err := p.err, at_ := p.at_, nm := p.nm, rc := { o.rsp.rc with st := p.rc.st } } } 18 (.int .i64 p.rc.st) rfl hx
  have h5 := row_set h4 { o with rsp := { o.rsp with err := p.err, at_ := p.at_, nm := p.nm, rc := { o.rsp.rc with st := p.rc.st, ow := p.rc.ow } } } 19 (.int .i64 p.rc.ow) rfl hx
  have h6 := row_set h5 { o with rsp := { o.rsp with err := p.err, at_ := p.at_, nm := p.nm, rc := { o.rsp.rc with st := p.rc.st, ow := p.rc.ow, nm := p.rc.nm } } } 20 (.string p.rc.nm) rfl hx
  have h7 := row_set h6 { o with rsp := { o.rsp with err := p.err, at_ := p.at_, nm := p.nm, rc := p.rc } } 21 (.int .i64 p.rc.dl) rfl hx
  exact row_set h7 { o with rsp := p } 22 (.int .i64 p.tk) rfl hx
end Go.Proofs.YtddieenjdaociaaGreatDoor
namespace Go.Proofs.YtddieenjdaociaaGreatDoor
open Go Go.RowKit Go.Shelf
set_option linter.unusedVariables false

set_option maxRecDepth 100000 in
set_option maxHeartbeats 8000000 in
/-- A step of a client that is busy: it goes on (1), is decided (3) or answered (4); the last operation is written. -/
theorem pick_on {w : World} {d s cw n c c0 b m i base k kc og nn : Nat} {steps cl ph ph' : Int} {t tx : ByteArray} {op ttl op' ttl' : Int} {nv rv : Value} {p p' : Rs} {xs : List Opn} {o : Opn} {x : Nm} {at_ : Int} {PS : World → Prop} (tick r : Int)
    (h : DAt w d s (.slice (some ⟨cw, 0, none⟩) n c) steps (.slice (some ⟨og, 0, none⟩) (k + 1) kc)) (hi : i < n) (hn : n ≤ 64) (hcell : w.cell? ⟨cw, i, none⟩ = some (.pointer (some ⟨c0, 0, none⟩))) (hc : CAt w c0 b m (k : Int))
    (hm : MAt w m cl ph tx op ttl nv at_ rv p) (hph : (ph == 0) = false) (hk : k ≤ 100) (hx : xs.length = k) (hr : r = 1 ∨ r = 3 ∨ r = 4) (hop : (op' == 0) = false)
    (hS : Calls Tryz.prog 26 #[.pointer (some ⟨m, 0, none⟩), .pointer (some ⟨s, 0, none⟩)] w.drew fun e w' => e = .returned (.int .i64 r) ∧ PS w')
    (hP : ∀ w2, PS w2 → DAt w2 d s (.slice (some ⟨cw, 0, none⟩) n c) steps (.slice (some ⟨og, 0, none⟩) (k + 1) kc) ∧ CAt w2 c0 b m (k : Int) ∧ (∃ q cq rv', MAt w2 m cl ph' tx op' ttl' (.slice (some ⟨q, 0, none⟩) 1 cq) 0 rv' p' ∧ w2.ownsRow base 127 3 (.slice (some ⟨q, 0, none⟩) 1 cq) 1 (nmsC [x])) ∧
      w2.ownsRow base 75 23 (.slice (some ⟨og, 0, none⟩) (k + 1) kc) (k + 1) (opC (xs ++ [o])) ∧ base ≤ w2.heap.size) :
    Calls Tryz.prog 14 #[.pointer (some ⟨d, 0, none⟩), .int .i64 (i : Int), .int .i64 tick] w fun e w' => e = .returned (.bool true) ∧ ∃ w2, PS w2 ∧ Oth [og] w2 w' ∧ ∃ A' c',
      w'.ownsRow base 75 23 (.slice (some ⟨og, 0, none⟩) (k + 1) kc) (k + 1) (opC (xs ++ [{ o with op := op', ttl := ttl', nA := A', nn := 1, nc := c', dec := if r = 3 then tick else o.dec, ans := if r = 4 then tick else o.ans, rsp := if r = 3 then p' else o.rsp }])) ∧
      w'.ownsRow base 127 3 (.slice A' 1 c') 1 (nmsC [x]) := by
  have y1 := h.c1; have z1 := hc.c1
  have HM := Lib.hid hm; have HP := Lib.hid hP; have HR := Lib.hid hr
  clear hm hP hr
  go_enter Tryz.func14, Tryz.ntmps14
  go_wp2_with fail
  refine (phase_any m cl ph tx op ttl nv at_ rv p w HM.out).mono ?_
  rintro e w1 ⟨rfl, rfl⟩
  go_wp2_with fail
  have y0 := h.c0
  go_still_tail 8, (by kernel_rfl)
  change wpList _ _ _ _ _ (World.drew _)
  go_wp2_with fail
  refine hS.mono ?_
  rintro e w2 ⟨rfl, hps⟩
  obtain ⟨hd2, hc2, ⟨q, cq, rv', hm2, hnm2⟩, hrow2, hsz2⟩ := HP.out w2 hps
  have HM2 := Lib.hid hm2; have HN2 := Lib.hid hnm2; have HW2 := Lib.hid hrow2; have HPS := Lib.hid hps
  clear h hc y0 y1 z1 hcell hm2 hnm2 hrow2 hps HP
  have y3 := hd2.c3; have z2 := hc2.c2; have z1 := hc2.c1
  clear hd2
  go_upto_region 5 with (fail)
  have hk0 : (0 : Int) ≤ (k : Int) := by omega
  have hk1 : (k : Int) < ((k + 1 : Nat) : Int) := by omega
  have hk2 : (k : Int).toNat = k := by omega
  go_region
  have q1 := (row_cell HW2.out hx 1 rfl).1; have q2 := (row_cell HW2.out hx 2 rfl).1; have f1 := (row_cell HW2.out hx 1 rfl).2; have f2 := (row_cell HW2.out hx 2 rfl).2
  go_wp2_with fail
  refine (request_any m cl ph' tx op' ttl' _ 0 rv' p' w2.drew (by exact HM2.out)).mono ?_
  rintro e w3 ⟨rfl, mm, rfl⟩
  go_upto_region 7 with (fail)
  have hw1 := row_set HW2.out { o with op := op' } 1 (.int .i64 op') rfl hx
  have hw3 := row_set hw1 { o with op := op', ttl := ttl' } 2 (.int .i64 ttl') rfl hx
  have HW3 := Lib.hid (show ((((w2.drewN (1 + mm)).setCell ⟨og, k * 23 + 1, none⟩ (.int .i64 op')).setCell ⟨og, k * 23 + 2, none⟩ (.int .i64 ttl'))).ownsRow base 75 23 (.slice (some ⟨og, 0, none⟩) (k + 1) kc) (k + 1) (opC (xs ++ [{ o with op := op', ttl := ttl' }])) from hw3)
  have HO3 := Lib.hid ((((Oth.refl [og] w2).drewN (1 + mm)).setCell (p := ⟨og, k * 23 + 1, none⟩) (.inl (by simp)) (.int .i64 op')).setCell (p := ⟨og, k * 23 + 2, none⟩) (.inl (by simp)) (.int .i64 ttl'))
  clear hw1 hw3 q1 q2 f1 f2
  generalize hw4 : ((w2.drewN (1 + mm)).setCell ⟨og, k * 23 + 1, none⟩ (.int .i64 op')).setCell ⟨og, k * 23 + 2, none⟩ (.int .i64 ttl') = w4 at *
  have hnog : ∀ (g : Nat) (t : TypeId) (cs : Array Value), Bk w2 g t cs → t ≠ 75 → g ∉ [og] := by
    intro g t cs hb ht
    obtain ⟨cs', hb'⟩ := own_blk HW2.out og (by simp [rowL])
    simpa using Bk.ne hb hb' ht
  have HM4 := Lib.hid (HM2.out.oth HO3.out (hnog _ _ _ HM2.out.bk (by decide)))
  have HC4 := Lib.hid (hc2.oth HO3.out (hnog _ _ _ hc2.bk (by decide)))
  have HN4 := Lib.hid (own_oth2 HN2.out HO3.out (fun g cs hb => hnog _ _ _ hb (by decide)))
  clear hw4 z1 z2 y3
  have z1 := HC4.out.c1
  go_wp2_with fail
  have hbs4 := HO3.out.size
  refine (names_any HM4.out (Rd.of_own HN4.out) (Nat.le_refl _) (by omega)).mono ?_
  rintro e w5 ⟨A', c', rfl, hn5, hb5⟩
  have HW5 := Lib.hid (own_past HW3.out hb5)
  have HN5 := Lib.hid hn5
  have HO5 := Lib.hid (HO3.out.add hb5 (Nat.le_refl _))
  have HM5 := Lib.hid (HM4.out.below hb5 HM4.out.lt)
  have HC5 := Lib.hid (show CAt w5 c0 b m (k : Int) from Bk.below HC4.out.bk hb5 HC4.out.lt)
  clear hn5 hb5 z1
  have q3 := (row_cell HW5.out hx 3 rfl).1; have f3 := (row_cell HW5.out hx 3 rfl).2
  go_upto_region 8 with (fail)
  have hw6 := row_set HW5.out { o with op := op', ttl := ttl', nA := A', nn := 1, nc := c' } 3 (.slice A' 1 c') rfl hx
  have ho6 : Oth [og] w5 (w5.setCell ⟨og, k * 23 + 3, none⟩ (.slice A' 1 c')) := (Oth.refl [og] w5).setCell (p := ⟨og, k * 23 + 3, none⟩) (.inl (by simp)) _
  have hnog5 : ∀ (g : Nat) (t : TypeId) (cs : Array Value), Bk w5 g t cs → t ≠ 75 → g ∉ [og] := by
    intro g t cs hb ht
    obtain ⟨cs', hb'⟩ := own_blk HW5.out og (by simp [rowL])
    simpa using Bk.ne hb hb' ht
  have HW6 := Lib.hid hw6
  have HO6 := Lib.hid (HO5.out.trans ho6)
  have HN6 := Lib.hid (own_mono (own_oth2 HN5.out ho6 (fun g cs hb => hnog5 _ _ _ hb (by decide))) (Nat.le_trans hsz2 hbs4))
  have HM6 := Lib.hid (HM5.out.oth ho6 (hnog5 _ _ _ HM5.out.bk (by decide)))
  have HC6 := Lib.hid (HC5.out.oth ho6 (hnog5 _ _ _ HC5.out.bk (by decide)))
  clear hw6 ho6 q3 f3 hnog hnog5
  generalize hw7 : w5.setCell ⟨og, k * 23 + 3, none⟩ (.slice A' 1 c') = w7 at *
  clear hw7
  have hop2 : ¬ op' = 0 := by simpa using hop
  rcases HR.out with rfl | rfl | rfl
  · go_wp2_with fail
    go_ret
    exact ⟨rfl, w2, HPS.out, HO6.out, A', c', HW6.out, HN6.out⟩
  · have z1 := HC6.out.c1
    go_wp2_with fail
    refine (response_any HM6.out).mono ?_
    rintro e w8 ⟨rfl, hb8⟩
    simp only [Rs.arr]
    have HW8 := Lib.hid (own_past HW6.out hb8)
    have HN8 := Lib.hid (own_past HN6.out hb8)
    have HO8 := Lib.hid (HO6.out.add hb8 (Nat.le_refl _))
    have HM8 := Lib.hid (HM6.out.below hb8 HM6.out.lt)
    clear hb8 z1
    have d13 := (row_cell HW8.out hx 13 rfl).1; have e13 := (row_cell HW8.out hx 13 rfl).2
    have d15 := (row_cell HW8.out hx 15 rfl).1; have e15 := (row_cell HW8.out hx 15 rfl).2
    have d16 := (row_cell HW8.out hx 16 rfl).1; have e16 := (row_cell HW8.out hx 16 rfl).2
    have d17 := (row_cell HW8.out hx 17 rfl).1; have e17 := (row_cell HW8.out hx 17 rfl).2
    have d18 := (row_cell HW8.out hx 18 rfl).1; have e18 := (row_cell HW8.out hx 18 rfl).2
    have d19 := (row_cell HW8.out hx 19 rfl).1; have e19 := (row_cell HW8.out hx 19 rfl).2
    have d20 := (row_cell HW8.out hx 20 rfl).1; have e20 := (row_cell HW8.out hx 20 rfl).2
    have d21 := (row_cell HW8.out hx 21 rfl).1; have e21 := (row_cell HW8.out hx 21 rfl).2
    have d22 := (row_cell HW8.out hx 22 rfl).1; have e22 := (row_cell HW8.out hx 22 rfl).2
    go_upto_region 11 with (fail)
    have hw9 := row_set HW8.out { o with op := op', ttl := ttl', nA := A', nn := 1, nc := c', dec := tick } 13 (.int .i64 tick) rfl hx
    have hw10 := row_set8 hw9 p' hx
    have ho10 := oth8g (k * 23 + 15) ((Oth.refl [og] w8).setCell (p := ⟨og, k * 23 + 13, none⟩) (.inl (by simp)) (.int .i64 tick)) (.int .i64 p'.err) (.int .i64 p'.at_) (.string p'.nm) (.int .i64 p'.rc.st) (.int .i64 p'.rc.ow) (.string p'.rc.nm) (.int .i64 p'.rc.dl) (.int .i64 p'.tk)
    have HW10 := Lib.hid hw10
    have HO10 := Lib.hid (HO8.out.trans ho10)
    have HN10 := Lib.hid (own_oth2 HN8.out ho10 (fun g cs hb => by
      obtain ⟨cs', hb'⟩ := own_blk HW8.out og (by simp [rowL])
      simpa using Bk.ne hb hb' (by decide)))
    clear hw9 hw10 ho10 d13 e13 d15 e15 d16 e16 d17 e17 d18 e18 d19 e19 d20 e20 d21 e21 d22 e22
    generalize hw11 : ((((((((w8.setCell ⟨og, k * 23 + 13, none⟩ (.int .i64 tick)).setCell ⟨og, k * 23 + 15, none⟩ (.int .i64 p'.err)).setCell ⟨og, k * 23 + 15 + 1, none⟩ (.int .i64 p'.at_)).setCell ⟨og, k * 23 + 15 + 2, none⟩ (.string p'.nm)).setCell ⟨og, k * 23 + 15 + 3, none⟩ (.int .i64 p'.rc.st)).setCell ⟨og, k * 23 + 15 + 4, none⟩ (.int .i64 p'.rc.ow)).setCell ⟨og, k * 23 + 15 + 5, none⟩ (.string p'.rc.nm)).setCell ⟨og, k * 23 + 15 + 6, none⟩ (.int .i64 p'.rc.dl)).setCell ⟨og, k * 23 + 15 + 7, none⟩ (.int .i64 p'.tk) = w11 at *
    clear hw11
    have q9 := (row_cell HW10.out hx 1 rfl).1
    go_wp2_with fail
    go_ret
    exact ⟨rfl, w2, HPS.out, HO10.out, A', c', HW10.out, HN10.out⟩
  · have q7 := (row_cell HW6.out hx 14 rfl).1; have f7 := (row_cell HW6.out hx 14 rfl).2
    go_wp2_with fail
    go_ret
    have hw8 := row_set HW6.out { o with op := op', ttl := ttl', nA := A', nn := 1, nc := c', ans := tick } 14 (.int .i64 tick) rfl hx
    have ho8 : Oth [og] w7 (w7.setCell ⟨og, k * 23 + 14, none⟩ (.int .i64 tick)) := (Oth.refl [og] w7).setCell (p := ⟨og, k * 23 + 14, none⟩) (.inl (by simp)) _
    refine ⟨rfl, w2, HPS.out, HO6.out.trans ho8, A', c', hw8, own_oth2 HN6.out ho8 (fun g cs hb => ?_)⟩
    obtain ⟨cs', hb'⟩ := own_blk HW6.out og (by simp [rowL])
    simpa using Bk.ne hb hb' (by decide)
end Go.Proofs.YtddieenjdaociaaGreatDoor
