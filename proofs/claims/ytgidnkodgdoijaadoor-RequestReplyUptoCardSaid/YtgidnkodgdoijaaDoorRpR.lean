/- The walk of the reference's Reply. -/
import Derived.Test.YtgidnkodgdoijaaDoorRpM
import Derived.Test.YtgidnkodgdoijaaDoorRfD
import Derived.Test.YtgidnkodgdoijaaDoorRfQ
namespace Go.Proofs.YtgidnkodgdoijaaDoor
open Go Go.RowKit Go.Proofs
set_option linter.unusedVariables false

/-- The same, with the record in block x. -/
def Ry (g : Nat) (cs : Array Value) (x : Nat) (xs : Array Value) (W w : World) : Prop := Rx g cs W w ∧ Bk w x 24 xs ∧ x < w.heap.size
section
variable {g x : Nat} {cs xs : Array Value} {W w : World}
theorem Ry.drewN (h : Ry g cs x xs W w) (n : Nat) : Ry g cs x xs W (w.drewN n) := ⟨h.1.drewN n, h.2.1.drewN n, h.2.2⟩
theorem Ry.drew (h : Ry g cs x xs W w) : Ry g cs x xs W w.drew := h.drewN 1
theorem Ry.past {w' : World} (h : Ry g cs x xs W w) (hb : Below w.heap.size w w') : Ry g cs x xs W w' := ⟨h.1.past hb, h.2.1.below hb h.2.2, Nat.lt_of_lt_of_le h.2.2 hb.size⟩
theorem dec_y {n : Int} {E : ByteArray} (hE : str (Lib.itoa n) = E) (h0 : -9223372036854775808 ≤ n) (h1 : n ≤ 9223372036854775807) (h : Ry g cs x xs W w) :
    Calls Tryd.prog 21 #[.int .i64 n] w fun e w' => e = .returned (.string E) ∧ Ry g cs x xs W w' := by
  refine (rdecimal_any n h0 h1 w).mono ?_
  rw [hE]
  rintro e w' ⟨rfl, rfl⟩
  exact ⟨rfl, h⟩
theorem quote_y {s : ByteArray} {E : ByteArray} (hE : str (Rq.quote (lst s)) = E) (hs : s.size ≤ 35184372088832) (h : Ry g cs x xs W w) :
    Calls Tryd.prog 22 #[.string s] w fun e w' => e = .returned (.string E) ∧ Ry g cs x xs W w' := by
  refine (rquote_any s hs w).mono ?_
  rw [hE]
  rintro e w' ⟨rfl, hb⟩
  exact ⟨rfl, h.past hb⟩
end
theorem rrep_err_s {g : Nat} {W w : World} {er : Int} {att : Int} {nm : ByteArray} {st : Int} {ow : Int} {rn : ByteArray} {dl : Int} {tk : Int} (h : Ry g #[.int .i64 er, .int .i64 att, .string nm, .int .i64 st, .int .i64 ow, .string rn, .int .i64 dl, .int .i64 tk] (g + 1) #[.int .i64 st, .int .i64 ow, .string rn, .int .i64 dl] W w) :
    w.cell? ⟨g, 0, none⟩ = some (.int .i64 er) ∧ w.cell? ⟨g, 1, none⟩ = some (.int .i64 att) ∧ w.cell? ⟨g, 7, none⟩ = some (.int .i64 tk) ∧ w.cell? ⟨g, 2, none⟩ = some (.string nm) :=
  ⟨h.1.2.1.cell 0, h.1.2.1.cell 1, h.1.2.1.cell 7, h.1.2.1.cell 2⟩
set_option maxRecDepth 100000 in
set_option maxHeartbeats 8000000 in
theorem rrep_err (op : Int) (er : Int) (att : Int) (nm : ByteArray) (st : Int) (ow : Int) (rn : ByteArray) (dl : Int) (tk : Int) (w : World) (he : er ≠ 0) (e0 : -9223372036854775808 ≤ er) (e1 : er ≤ 9223372036854775807) (a0 : -9223372036854775808 ≤ att) (a1 : att ≤ 9223372036854775807) (t0 : -9223372036854775808 ≤ tk) (t1 : tk ≤ 9223372036854775807)
    (hn : nm.size ≤ 35184372088832) (ht : Tb w) :
    Calls Tryd.prog 11 #[.int .i64 op, .agg (rcs er att nm st ow rn dl tk)] w fun e w' => e = .returned (.string (str (Rq.jn [[69, 82, 82], Lib.itoa er, Lib.itoa att, Lib.itoa tk, Rq.quote (lst nm)]))) ∧ Below w.heap.size w w' := by
  have hx : Rx w.heap.size (rcs er att nm st ow rn dl tk) w (w.alloc (.cells (rcs er att nm st ow rn dl tk) 26)) :=
    ⟨(Below.refl _ _).alloc (Nat.le_refl _) _, Bk.new _ _ _, ht.past ((Below.refl _ _).alloc (Nat.le_refl _) _), by simp, Nat.le_refl _⟩
  have hk : Bk ((w.alloc (.cells (rcs er att nm st ow rn dl tk) 26)).alloc (.cells #[.int .i64 st, .int .i64 ow, .string rn, .int .i64 dl] 24)) (w.heap.size + 1) 24 #[.int .i64 st, .int .i64 ow, .string rn, .int .i64 dl] := by
    have := Bk.new (w.alloc (.cells (rcs er att nm st ow rn dl tk) 26)) 24 #[.int .i64 st, .int .i64 ow, .string rn, .int .i64 dl]
    simpa using this
  have hy : Ry w.heap.size (rcs er att nm st ow rn dl tk) (w.heap.size + 1) #[.int .i64 st, .int .i64 ow, .string rn, .int .i64 dl] w ((w.alloc (.cells (rcs er att nm st ow rn dl tk) 26)).alloc (.cells #[.int .i64 st, .int .i64 ow, .string rn, .int .i64 dl] 24)) := ⟨hx.alloc _, hk, by simp⟩
  have hne : (er != 0) = true := by simpa using he
  clear he
  obtain ⟨E0, hE0⟩ : ∃ E, str (Lib.itoa er) = E := ⟨_, rfl⟩
  have z0 : E0.size ≤ 20 := by rw [← hE0, str_size]; exact itoa_len er e0 e1
  have HE0 := Lib.hid hE0
  obtain ⟨E1, hE1⟩ : ∃ E, str (Lib.itoa att) = E := ⟨_, rfl⟩
  have z1 : E1.size ≤ 20 := by rw [← hE1, str_size]; exact itoa_len att a0 a1
  have HE1 := Lib.hid hE1
  obtain ⟨E2, hE2⟩ : ∃ E, str (Lib.itoa tk) = E := ⟨_, rfl⟩
  have z2 : E2.size ≤ 20 := by rw [← hE2, str_size]; exact itoa_len tk t0 t1
  have HE2 := Lib.hid hE2
  obtain ⟨E3, hE3⟩ : ∃ E, str (Rq.quote (lst nm)) = E := ⟨_, rfl⟩
  have z3 : E3.size ≤ 105553116266498 := by rw [← hE3, str_size]; have := (Rq.quote_len (lst nm)).2.2; rw [lst_length] at this; omega
  have HE3 := Lib.hid hE3
  clear hx hk ht hE0 hE1 hE2 hE3
  have y0 : (⟨#[69, 82, 82, 32]⟩ : ByteArray).size = 4 := rfl
  have y1 : (⟨#[32]⟩ : ByteArray).size = 1 := rfl
  have b0 : 4 + E0.size ≤ 9223372036854775807 := by omega
  obtain ⟨P0, p0⟩ : ∃ P, (⟨#[69, 82, 82, 32]⟩ : ByteArray) ++ E0 = P := ⟨_, rfl⟩
  have x0 : P0.size ≤ 24 := by rw [← p0, ByteArray.size_append]; omega
  have g0 : ∀ w0 : World, (Op.stringOp .add (⟨#[69, 82, 82, 32]⟩ : ByteArray) E0).run Tryd.prog w0 = .ok (.string P0) w0 := fun w0 => (run_string_add_sum w0 _ _ (by first | exact b0 | omega)).trans (by rw [p0])
  have b1 : P0.size + 1 ≤ 9223372036854775807 := by omega
  obtain ⟨P1, p1⟩ : ∃ P, P0 ++ (⟨#[32]⟩ : ByteArray) = P := ⟨_, rfl⟩
  have x1 : P1.size ≤ 25 := by rw [← p1, ByteArray.size_append]; omega
  have g1 : ∀ w0 : World, (Op.stringOp .add P0 (⟨#[32]⟩ : ByteArray)).run Tryd.prog w0 = .ok (.string P1) w0 := fun w0 => (run_string_add_sum w0 _ _ (by first | exact b1 | omega)).trans (by rw [p1])
  have b2 : P1.size + E1.size ≤ 9223372036854775807 := by omega
  obtain ⟨P2, p2⟩ : ∃ P, P1 ++ E1 = P := ⟨_, rfl⟩
  have x2 : P2.size ≤ 45 := by rw [← p2, ByteArray.size_append]; omega
  have g2 : ∀ w0 : World, (Op.stringOp .add P1 E1).run Tryd.prog w0 = .ok (.string P2) w0 := fun w0 => (run_string_add_sum w0 _ _ (by first | exact b2 | omega)).trans (by rw [p2])
  have b3 : P2.size + 1 ≤ 9223372036854775807 := by omega
  obtain ⟨P3, p3⟩ : ∃ P, P2 ++ (⟨#[32]⟩ : ByteArray) = P := ⟨_, rfl⟩
  have x3 : P3.size ≤ 46 := by rw [← p3, ByteArray.size_append]; omega
  have g3 : ∀ w0 : World, (Op.stringOp .add P2 (⟨#[32]⟩ : ByteArray)).run Tryd.prog w0 = .ok (.string P3) w0 := fun w0 => (run_string_add_sum w0 _ _ (by first | exact b3 | omega)).trans (by rw [p3])
  have b4 : P3.size + E2.size ≤ 9223372036854775807 := by omega
  obtain ⟨P4, p4⟩ : ∃ P, P3 ++ E2 = P := ⟨_, rfl⟩
  have x4 : P4.size ≤ 66 := by rw [← p4, ByteArray.size_append]; omega
  have g4 : ∀ w0 : World, (Op.stringOp .add P3 E2).run Tryd.prog w0 = .ok (.string P4) w0 := fun w0 => (run_string_add_sum w0 _ _ (by first | exact b4 | omega)).trans (by rw [p4])
  have b5 : P4.size + 1 ≤ 9223372036854775807 := by omega
  obtain ⟨P5, p5⟩ : ∃ P, P4 ++ (⟨#[32]⟩ : ByteArray) = P := ⟨_, rfl⟩
  have x5 : P5.size ≤ 67 := by rw [← p5, ByteArray.size_append]; omega
  have g5 : ∀ w0 : World, (Op.stringOp .add P4 (⟨#[32]⟩ : ByteArray)).run Tryd.prog w0 = .ok (.string P5) w0 := fun w0 => (run_string_add_sum w0 _ _ (by first | exact b5 | omega)).trans (by rw [p5])
  have b6 : P5.size + E3.size ≤ 9223372036854775807 := by omega
  obtain ⟨P6, p6⟩ : ∃ P, P5 ++ E3 = P := ⟨_, rfl⟩
  have x6 : P6.size ≤ 105553116266565 := by rw [← p6, ByteArray.size_append]; omega
  have g6 : ∀ w0 : World, (Op.stringOp .add P5 E3).run Tryd.prog w0 = .ok (.string P6) w0 := fun w0 => (run_string_add_sum w0 _ _ (by first | exact b6 | omega)).trans (by rw [p6])
  have hv : P6 = str (Rq.jn [[69, 82, 82], Lib.itoa er, Lib.itoa att, Lib.itoa tk, Rq.quote (lst nm)]) := by
    rw [← p6, ← p5, ← p4, ← p3, ← p2, ← p1, ← p0, ← HE0.out, ← HE1.out, ← HE2.out, ← HE3.out]
    apply ByteArray.ext; apply Array.toList_inj.1; simp [ByteArray.data_append, str, Rq.jn]
  have HV := Lib.hid hv
  clear hv p0 p1 p2 p3 p4 p5 p6 x0 x1 x2 x3 x4 x5 x6 b0 b1 b2 b3 b4 b5 b6
  have q0 : (w.alloc (.cells (rcs er att nm st ow rn dl tk) 26)).cell? ⟨w.heap.size, 3, none⟩ = some (.int .i64 st) := (Bk.new _ _ _).cell 3
  clear q0
  unfold rcs at hy
  unfold rcs
  go_enter Tryd.func11, Tryd.ntmps11
  go_upto_region 3 with fail
  generalize (w.alloc (.cells #[.int .i64 er, .int .i64 att, .string nm, .int .i64 st, .int .i64 ow, .string rn, .int .i64 dl, .int .i64 tk] 26)).alloc (.cells #[.int .i64 st, .int .i64 ow, .string rn, .int .i64 dl] 24) = w2 at *
  have hy3 := hy.drew
  go_region_held3 (fun w' => w'.cell? ⟨w.heap.size, 0, none⟩ = some (.int .i64 er) ∧ w'.cell? ⟨w.heap.size, 1, none⟩ = some (.int .i64 att) ∧ w'.cell? ⟨w.heap.size, 7, none⟩ = some (.int .i64 tk) ∧ w'.cell? ⟨w.heap.size, 2, none⟩ = some (.string nm))
    ((refine rrep_err_s (W := w) (er := er) (att := att) (nm := nm) (st := st) (ow := ow) (rn := rn) (dl := dl) (tk := tk) ?_; assumption))
    (first
      | (go_at_call_of 21 (Value.int .i64 er); refine (dec_y (g := w.heap.size) (cs := #[.int .i64 er, .int .i64 att, .string nm, .int .i64 st, .int .i64 ow, .string rn, .int .i64 dl, .int .i64 tk]) (x := w.heap.size + 1) (xs := #[.int .i64 st, .int .i64 ow, .string rn, .int .i64 dl]) (W := w) HE0.out e0 e1 ?_).mono ?_; assumption; rintro e w' ⟨rfl, hx'⟩)
      | (go_at_call_of 21 (Value.int .i64 att); refine (dec_y (g := w.heap.size) (cs := #[.int .i64 er, .int .i64 att, .string nm, .int .i64 st, .int .i64 ow, .string rn, .int .i64 dl, .int .i64 tk]) (x := w.heap.size + 1) (xs := #[.int .i64 st, .int .i64 ow, .string rn, .int .i64 dl]) (W := w) HE1.out a0 a1 ?_).mono ?_; assumption; rintro e w' ⟨rfl, hx'⟩)
      | (go_at_call_of 21 (Value.int .i64 tk); refine (dec_y (g := w.heap.size) (cs := #[.int .i64 er, .int .i64 att, .string nm, .int .i64 st, .int .i64 ow, .string rn, .int .i64 dl, .int .i64 tk]) (x := w.heap.size + 1) (xs := #[.int .i64 st, .int .i64 ow, .string rn, .int .i64 dl]) (W := w) HE2.out t0 t1 ?_).mono ?_; assumption; rintro e w' ⟨rfl, hx'⟩)
      | (go_at_call 22; refine (quote_y (g := w.heap.size) (cs := #[.int .i64 er, .int .i64 att, .string nm, .int .i64 st, .int .i64 ow, .string rn, .int .i64 dl, .int .i64 tk]) (x := w.heap.size + 1) (xs := #[.int .i64 st, .int .i64 ow, .string rn, .int .i64 dl]) (W := w) HE3.out hn ?_).mono ?_; assumption; rintro e w' ⟨rfl, hx'⟩)
      | fail)
  go_wp2_with fail
  go_ret
  exact ⟨by rw [← HV.out]; rfl, hx'.1.1⟩
theorem rrep_held_s {g : Nat} {W w : World} {att : Int} {nm : ByteArray} {ow : Int} {rn : ByteArray} {dl : Int} {tk : Int} (h : Ry g #[.int .i64 (0), .int .i64 att, .string nm, .int .i64 (1), .int .i64 ow, .string rn, .int .i64 dl, .int .i64 tk] (g + 1) #[.int .i64 (1), .int .i64 ow, .string rn, .int .i64 dl] W w) :
    w.cell? ⟨g + 1, 1, none⟩ = some (.int .i64 ow) ∧ w.cell? ⟨g + 1, 3, none⟩ = some (.int .i64 dl) ∧ w.cell? ⟨g + 1, 2, none⟩ = some (.string rn) ∧ w.cell? ⟨g, 7, none⟩ = some (.int .i64 tk) :=
  ⟨h.2.1.cell 1, h.2.1.cell 3, h.2.1.cell 2, h.1.2.1.cell 7⟩
set_option maxRecDepth 100000 in
set_option maxHeartbeats 8000000 in
theorem rrep_held (att : Int) (nm : ByteArray) (ow : Int) (rn : ByteArray) (dl : Int) (tk : Int) (w : World)  (o0 : -9223372036854775808 ≤ ow) (o1 : ow ≤ 9223372036854775807) (d0 : -9223372036854775808 ≤ dl) (d1 : dl ≤ 9223372036854775807) (t0 : -9223372036854775808 ≤ tk) (t1 : tk ≤ 9223372036854775807)
    (hr : rn.size ≤ 35184372088832) (ht : Tb w) :
    Calls Tryd.prog 11 #[.int .i64 7, .agg (rcs (0) att nm (1) ow rn dl tk)] w fun e w' => e = .returned (.string (str (Rq.jn [[72, 69, 76, 68], Lib.itoa ow, Lib.itoa dl, Rq.quote (lst rn), Lib.itoa tk]))) ∧ Below w.heap.size w w' := by
  have hx : Rx w.heap.size (rcs (0) att nm (1) ow rn dl tk) w (w.alloc (.cells (rcs (0) att nm (1) ow rn dl tk) 26)) :=
    ⟨(Below.refl _ _).alloc (Nat.le_refl _) _, Bk.new _ _ _, ht.past ((Below.refl _ _).alloc (Nat.le_refl _) _), by simp, Nat.le_refl _⟩
  have hk : Bk ((w.alloc (.cells (rcs (0) att nm (1) ow rn dl tk) 26)).alloc (.cells #[.int .i64 (1), .int .i64 ow, .string rn, .int .i64 dl] 24)) (w.heap.size + 1) 24 #[.int .i64 (1), .int .i64 ow, .string rn, .int .i64 dl] := by
    have := Bk.new (w.alloc (.cells (rcs (0) att nm (1) ow rn dl tk) 26)) 24 #[.int .i64 (1), .int .i64 ow, .string rn, .int .i64 dl]
    simpa using this
  have hy : Ry w.heap.size (rcs (0) att nm (1) ow rn dl tk) (w.heap.size + 1) #[.int .i64 (1), .int .i64 ow, .string rn, .int .i64 dl] w ((w.alloc (.cells (rcs (0) att nm (1) ow rn dl tk) 26)).alloc (.cells #[.int .i64 (1), .int .i64 ow, .string rn, .int .i64 dl] 24)) := ⟨hx.alloc _, hk, by simp⟩
  obtain ⟨E0, hE0⟩ : ∃ E, str (Lib.itoa ow) = E := ⟨_, rfl⟩
  have z0 : E0.size ≤ 20 := by rw [← hE0, str_size]; exact itoa_len ow o0 o1
  have HE0 := Lib.hid hE0
  obtain ⟨E1, hE1⟩ : ∃ E, str (Lib.itoa dl) = E := ⟨_, rfl⟩
  have z1 : E1.size ≤ 20 := by rw [← hE1, str_size]; exact itoa_len dl d0 d1
  have HE1 := Lib.hid hE1
  obtain ⟨E2, hE2⟩ : ∃ E, str (Rq.quote (lst rn)) = E := ⟨_, rfl⟩
  have z2 : E2.size ≤ 105553116266498 := by rw [← hE2, str_size]; have := (Rq.quote_len (lst rn)).2.2; rw [lst_length] at this; omega
  have HE2 := Lib.hid hE2
  obtain ⟨E3, hE3⟩ : ∃ E, str (Lib.itoa tk) = E := ⟨_, rfl⟩
  have z3 : E3.size ≤ 20 := by rw [← hE3, str_size]; exact itoa_len tk t0 t1
  have HE3 := Lib.hid hE3
  clear hx hk ht hE0 hE1 hE2 hE3
  have y0 : (⟨#[72, 69, 76, 68, 32]⟩ : ByteArray).size = 5 := rfl
  have y1 : (⟨#[32]⟩ : ByteArray).size = 1 := rfl
  have b0 : 5 + E0.size ≤ 9223372036854775807 := by omega
  obtain ⟨P0, p0⟩ : ∃ P, (⟨#[72, 69, 76, 68, 32]⟩ : ByteArray) ++ E0 = P := ⟨_, rfl⟩
  have x0 : P0.size ≤ 25 := by rw [← p0, ByteArray.size_append]; omega
  have g0 : ∀ w0 : World, (Op.stringOp .add (⟨#[72, 69, 76, 68, 32]⟩ : ByteArray) E0).run Tryd.prog w0 = .ok (.string P0) w0 := fun w0 => (run_string_add_sum w0 _ _ (by first | exact b0 | omega)).trans (by rw [p0])
  have b1 : P0.size + 1 ≤ 9223372036854775807 := by omega
  obtain ⟨P1, p1⟩ : ∃ P, P0 ++ (⟨#[32]⟩ : ByteArray) = P := ⟨_, rfl⟩
  have x1 : P1.size ≤ 26 := by rw [← p1, ByteArray.size_append]; omega
  have g1 : ∀ w0 : World, (Op.stringOp .add P0 (⟨#[32]⟩ : ByteArray)).run Tryd.prog w0 = .ok (.string P1) w0 := fun w0 => (run_string_add_sum w0 _ _ (by first | exact b1 | omega)).trans (by rw [p1])
  have b2 : P1.size + E1.size ≤ 9223372036854775807 := by omega
  obtain ⟨P2, p2⟩ : ∃ P, P1 ++ E1 = P := ⟨_, rfl⟩
  have x2 : P2.size ≤ 46 := by rw [← p2, ByteArray.size_append]; omega
  have g2 : ∀ w0 : World, (Op.stringOp .add P1 E1).run Tryd.prog w0 = .ok (.string P2) w0 := fun w0 => (run_string_add_sum w0 _ _ (by first | exact b2 | omega)).trans (by rw [p2])
  have b3 : P2.size + 1 ≤ 9223372036854775807 := by omega
  obtain ⟨P3, p3⟩ : ∃ P, P2 ++ (⟨#[32]⟩ : ByteArray) = P := ⟨_, rfl⟩
  have x3 : P3.size ≤ 47 := by rw [← p3, ByteArray.size_append]; omega
  have g3 : ∀ w0 : World, (Op.stringOp .add P2 (⟨#[32]⟩ : ByteArray)).run Tryd.prog w0 = .ok (.string P3) w0 := fun w0 => (run_string_add_sum w0 _ _ (by first | exact b3 | omega)).trans (by rw [p3])
  have b4 : P3.size + E2.size ≤ 9223372036854775807 := by omega
  obtain ⟨P4, p4⟩ : ∃ P, P3 ++ E2 = P := ⟨_, rfl⟩
  have x4 : P4.size ≤ 105553116266545 := by rw [← p4, ByteArray.size_append]; omega
  have g4 : ∀ w0 : World, (Op.stringOp .add P3 E2).run Tryd.prog w0 = .ok (.string P4) w0 := fun w0 => (run_string_add_sum w0 _ _ (by first | exact b4 | omega)).trans (by rw [p4])
  have b5 : P4.size + 1 ≤ 9223372036854775807 := by omega
  obtain ⟨P5, p5⟩ : ∃ P, P4 ++ (⟨#[32]⟩ : ByteArray) = P := ⟨_, rfl⟩
  have x5 : P5.size ≤ 105553116266546 := by rw [← p5, ByteArray.size_append]; omega
  have g5 : ∀ w0 : World, (Op.stringOp .add P4 (⟨#[32]⟩ : ByteArray)).run Tryd.prog w0 = .ok (.string P5) w0 := fun w0 => (run_string_add_sum w0 _ _ (by first | exact b5 | omega)).trans (by rw [p5])
  have b6 : P5.size + E3.size ≤ 9223372036854775807 := by omega
  obtain ⟨P6, p6⟩ : ∃ P, P5 ++ E3 = P := ⟨_, rfl⟩
  have x6 : P6.size ≤ 105553116266566 := by rw [← p6, ByteArray.size_append]; omega
  have g6 : ∀ w0 : World, (Op.stringOp .add P5 E3).run Tryd.prog w0 = .ok (.string P6) w0 := fun w0 => (run_string_add_sum w0 _ _ (by first | exact b6 | omega)).trans (by rw [p6])
  have hv : P6 = str (Rq.jn [[72, 69, 76, 68], Lib.itoa ow, Lib.itoa dl, Rq.quote (lst rn), Lib.itoa tk]) := by
    rw [← p6, ← p5, ← p4, ← p3, ← p2, ← p1, ← p0, ← HE0.out, ← HE1.out, ← HE2.out, ← HE3.out]
    apply ByteArray.ext; apply Array.toList_inj.1; simp [ByteArray.data_append, str, Rq.jn]
  have HV := Lib.hid hv
  clear hv p0 p1 p2 p3 p4 p5 p6 x0 x1 x2 x3 x4 x5 x6 b0 b1 b2 b3 b4 b5 b6
  have q0 : (w.alloc (.cells (rcs (0) att nm (1) ow rn dl tk) 26)).cell? ⟨w.heap.size, 3, none⟩ = some (.int .i64 (1)) := (Bk.new _ _ _).cell 3
  clear q0
  unfold rcs at hy
  unfold rcs
  go_enter Tryd.func11, Tryd.ntmps11
  go_upto_region 5 with fail
  generalize (w.alloc (.cells #[.int .i64 (0), .int .i64 att, .string nm, .int .i64 (1), .int .i64 ow, .string rn, .int .i64 dl, .int .i64 tk] 26)).alloc (.cells #[.int .i64 (1), .int .i64 ow, .string rn, .int .i64 dl] 24) = w2 at *
  have hy3 := hy.drew
  go_region_held3 (fun w' => w'.cell? ⟨w.heap.size + 1, 1, none⟩ = some (.int .i64 ow) ∧ w'.cell? ⟨w.heap.size + 1, 3, none⟩ = some (.int .i64 dl) ∧ w'.cell? ⟨w.heap.size + 1, 2, none⟩ = some (.string rn) ∧ w'.cell? ⟨w.heap.size, 7, none⟩ = some (.int .i64 tk))
    ((refine rrep_held_s (W := w) (att := att) (nm := nm) (ow := ow) (rn := rn) (dl := dl) (tk := tk) ?_; assumption))
    (first
      | (go_at_call_of 21 (Value.int .i64 ow); refine (dec_y (g := w.heap.size) (cs := #[.int .i64 (0), .int .i64 att, .string nm, .int .i64 (1), .int .i64 ow, .string rn, .int .i64 dl, .int .i64 tk]) (x := w.heap.size + 1) (xs := #[.int .i64 (1), .int .i64 ow, .string rn, .int .i64 dl]) (W := w) HE0.out o0 o1 ?_).mono ?_; assumption; rintro e w' ⟨rfl, hx'⟩)
      | (go_at_call_of 21 (Value.int .i64 dl); refine (dec_y (g := w.heap.size) (cs := #[.int .i64 (0), .int .i64 att, .string nm, .int .i64 (1), .int .i64 ow, .string rn, .int .i64 dl, .int .i64 tk]) (x := w.heap.size + 1) (xs := #[.int .i64 (1), .int .i64 ow, .string rn, .int .i64 dl]) (W := w) HE1.out d0 d1 ?_).mono ?_; assumption; rintro e w' ⟨rfl, hx'⟩)
      | (go_at_call 22; refine (quote_y (g := w.heap.size) (cs := #[.int .i64 (0), .int .i64 att, .string nm, .int .i64 (1), .int .i64 ow, .string rn, .int .i64 dl, .int .i64 tk]) (x := w.heap.size + 1) (xs := #[.int .i64 (1), .int .i64 ow, .string rn, .int .i64 dl]) (W := w) HE2.out hr ?_).mono ?_; assumption; rintro e w' ⟨rfl, hx'⟩)
      | (go_at_call_of 21 (Value.int .i64 tk); refine (dec_y (g := w.heap.size) (cs := #[.int .i64 (0), .int .i64 att, .string nm, .int .i64 (1), .int .i64 ow, .string rn, .int .i64 dl, .int .i64 tk]) (x := w.heap.size + 1) (xs := #[.int .i64 (1), .int .i64 ow, .string rn, .int .i64 dl]) (W := w) HE3.out t0 t1 ?_).mono ?_; assumption; rintro e w' ⟨rfl, hx'⟩)
      | fail)
  go_wp2_with fail
  go_ret
  exact ⟨by rw [← HV.out]; rfl, hx'.1.1⟩
theorem rrep_conf_s {g : Nat} {W w : World} {att : Int} {nm : ByteArray} {ow : Int} {rn : ByteArray} {dl : Int} {tk : Int} (h : Ry g #[.int .i64 (0), .int .i64 att, .string nm, .int .i64 (2), .int .i64 ow, .string rn, .int .i64 dl, .int .i64 tk] (g + 1) #[.int .i64 (2), .int .i64 ow, .string rn, .int .i64 dl] W w) :
    w.cell? ⟨g + 1, 1, none⟩ = some (.int .i64 ow) ∧ w.cell? ⟨g + 1, 2, none⟩ = some (.string rn) ∧ w.cell? ⟨g, 7, none⟩ = some (.int .i64 tk) :=
  ⟨h.2.1.cell 1, h.2.1.cell 2, h.1.2.1.cell 7⟩
set_option maxRecDepth 100000 in
set_option maxHeartbeats 8000000 in
theorem rrep_conf (att : Int) (nm : ByteArray) (ow : Int) (rn : ByteArray) (dl : Int) (tk : Int) (w : World)  (o0 : -9223372036854775808 ≤ ow) (o1 : ow ≤ 9223372036854775807) (t0 : -9223372036854775808 ≤ tk) (t1 : tk ≤ 9223372036854775807)
    (hr : rn.size ≤ 35184372088832) (ht : Tb w) :
    Calls Tryd.prog 11 #[.int .i64 7, .agg (rcs (0) att nm (2) ow rn dl tk)] w fun e w' => e = .returned (.string (str (Rq.jn [[67, 79, 78, 70, 73, 82, 77, 69, 68], Lib.itoa ow, Rq.quote (lst rn), Lib.itoa tk]))) ∧ Below w.heap.size w w' := by
  have hx : Rx w.heap.size (rcs (0) att nm (2) ow rn dl tk) w (w.alloc (.cells (rcs (0) att nm (2) ow rn dl tk) 26)) :=
    ⟨(Below.refl _ _).alloc (Nat.le_refl _) _, Bk.new _ _ _, ht.past ((Below.refl _ _).alloc (Nat.le_refl _) _), by simp, Nat.le_refl _⟩
  have hk : Bk ((w.alloc (.cells (rcs (0) att nm (2) ow rn dl tk) 26)).alloc (.cells #[.int .i64 (2), .int .i64 ow, .string rn, .int .i64 dl] 24)) (w.heap.size + 1) 24 #[.int .i64 (2), .int .i64 ow, .string rn, .int .i64 dl] := by
    have := Bk.new (w.alloc (.cells (rcs (0) att nm (2) ow rn dl tk) 26)) 24 #[.int .i64 (2), .int .i64 ow, .string rn, .int .i64 dl]
    simpa using this
  have hy : Ry w.heap.size (rcs (0) att nm (2) ow rn dl tk) (w.heap.size + 1) #[.int .i64 (2), .int .i64 ow, .string rn, .int .i64 dl] w ((w.alloc (.cells (rcs (0) att nm (2) ow rn dl tk) 26)).alloc (.cells #[.int .i64 (2), .int .i64 ow, .string rn, .int .i64 dl] 24)) := ⟨hx.alloc _, hk, by simp⟩
  obtain ⟨E0, hE0⟩ : ∃ E, str (Lib.itoa ow) = E := ⟨_, rfl⟩
  have z0 : E0.size ≤ 20 := by rw [← hE0, str_size]; exact itoa_len ow o0 o1
  have HE0 := Lib.hid hE0
  obtain ⟨E1, hE1⟩ : ∃ E, str (Rq.quote (lst rn)) = E := ⟨_, rfl⟩
  have z1 : E1.size ≤ 105553116266498 := by rw [← hE1, str_size]; have := (Rq.quote_len (lst rn)).2.2; rw [lst_length] at this; omega
  have HE1 := Lib.hid hE1
  obtain ⟨E2, hE2⟩ : ∃ E, str (Lib.itoa tk) = E := ⟨_, rfl⟩
  have z2 : E2.size ≤ 20 := by rw [← hE2, str_size]; exact itoa_len tk t0 t1
  have HE2 := Lib.hid hE2
  clear hx hk ht hE0 hE1 hE2
  have y0 : (⟨#[67, 79, 78, 70, 73, 82, 77, 69, 68, 32]⟩ : ByteArray).size = 10 := rfl
  have y1 : (⟨#[32]⟩ : ByteArray).size = 1 := rfl
  have b0 : 10 + E0.size ≤ 9223372036854775807 := by omega
  obtain ⟨P0, p0⟩ : ∃ P, (⟨#[67, 79, 78, 70, 73, 82, 77, 69, 68, 32]⟩ : ByteArray) ++ E0 = P := ⟨_, rfl⟩
  have x0 : P0.size ≤ 30 := by rw [← p0, ByteArray.size_append]; omega
  have g0 : ∀ w0 : World, (Op.stringOp .add (⟨#[67, 79, 78, 70, 73, 82, 77, 69, 68, 32]⟩ : ByteArray) E0).run Tryd.prog w0 = .ok (.string P0) w0 := fun w0 => (run_string_add_sum w0 _ _ (by first | exact b0 | omega)).trans (by rw [p0])
  have b1 : P0.size + 1 ≤ 9223372036854775807 := by omega
  obtain ⟨P1, p1⟩ : ∃ P, P0 ++ (⟨#[32]⟩ : ByteArray) = P := ⟨_, rfl⟩
  have x1 : P1.size ≤ 31 := by rw [← p1, ByteArray.size_append]; omega
  have g1 : ∀ w0 : World, (Op.stringOp .add P0 (⟨#[32]⟩ : ByteArray)).run Tryd.prog w0 = .ok (.string P1) w0 := fun w0 => (run_string_add_sum w0 _ _ (by first | exact b1 | omega)).trans (by rw [p1])
  have b2 : P1.size + E1.size ≤ 9223372036854775807 := by omega
  obtain ⟨P2, p2⟩ : ∃ P, P1 ++ E1 = P := ⟨_, rfl⟩
  have x2 : P2.size ≤ 105553116266529 := by rw [← p2, ByteArray.size_append]; omega
  have g2 : ∀ w0 : World, (Op.stringOp .add P1 E1).run Tryd.prog w0 = .ok (.string P2) w0 := fun w0 => (run_string_add_sum w0 _ _ (by first | exact b2 | omega)).trans (by rw [p2])
  have b3 : P2.size + 1 ≤ 9223372036854775807 := by omega
  obtain ⟨P3, p3⟩ : ∃ P, P2 ++ (⟨#[32]⟩ : ByteArray) = P := ⟨_, rfl⟩
  have x3 : P3.size ≤ 105553116266530 := by rw [← p3, ByteArray.size_append]; omega
  have g3 : ∀ w0 : World, (Op.stringOp .add P2 (⟨#[32]⟩ : ByteArray)).run Tryd.prog w0 = .ok (.string P3) w0 := fun w0 => (run_string_add_sum w0 _ _ (by first | exact b3 | omega)).trans (by rw [p3])
  have b4 : P3.size + E2.size ≤ 9223372036854775807 := by omega
  obtain ⟨P4, p4⟩ : ∃ P, P3 ++ E2 = P := ⟨_, rfl⟩
  have x4 : P4.size ≤ 105553116266550 := by rw [← p4, ByteArray.size_append]; omega
  have g4 : ∀ w0 : World, (Op.stringOp .add P3 E2).run Tryd.prog w0 = .ok (.string P4) w0 := fun w0 => (run_string_add_sum w0 _ _ (by first | exact b4 | omega)).trans (by rw [p4])
  have hv : P4 = str (Rq.jn [[67, 79, 78, 70, 73, 82, 77, 69, 68], Lib.itoa ow, Rq.quote (lst rn), Lib.itoa tk]) := by
    rw [← p4, ← p3, ← p2, ← p1, ← p0, ← HE0.out, ← HE1.out, ← HE2.out]
    apply ByteArray.ext; apply Array.toList_inj.1; simp [ByteArray.data_append, str, Rq.jn]
  have HV := Lib.hid hv
  clear hv p0 p1 p2 p3 p4 x0 x1 x2 x3 x4 b0 b1 b2 b3 b4
  have q0 : (w.alloc (.cells (rcs (0) att nm (2) ow rn dl tk) 26)).cell? ⟨w.heap.size, 3, none⟩ = some (.int .i64 (2)) := (Bk.new _ _ _).cell 3
  clear q0
  unfold rcs at hy
  unfold rcs
  go_enter Tryd.func11, Tryd.ntmps11
  go_upto_region 7 with fail
  generalize (w.alloc (.cells #[.int .i64 (0), .int .i64 att, .string nm, .int .i64 (2), .int .i64 ow, .string rn, .int .i64 dl, .int .i64 tk] 26)).alloc (.cells #[.int .i64 (2), .int .i64 ow, .string rn, .int .i64 dl] 24) = w2 at *
  have hy3 := hy.drew
  go_region_held3 (fun w' => w'.cell? ⟨w.heap.size + 1, 1, none⟩ = some (.int .i64 ow) ∧ w'.cell? ⟨w.heap.size + 1, 2, none⟩ = some (.string rn) ∧ w'.cell? ⟨w.heap.size, 7, none⟩ = some (.int .i64 tk))
    ((refine rrep_conf_s (W := w) (att := att) (nm := nm) (ow := ow) (rn := rn) (dl := dl) (tk := tk) ?_; assumption))
    (first
      | (go_at_call_of 21 (Value.int .i64 ow); refine (dec_y (g := w.heap.size) (cs := #[.int .i64 (0), .int .i64 att, .string nm, .int .i64 (2), .int .i64 ow, .string rn, .int .i64 dl, .int .i64 tk]) (x := w.heap.size + 1) (xs := #[.int .i64 (2), .int .i64 ow, .string rn, .int .i64 dl]) (W := w) HE0.out o0 o1 ?_).mono ?_; assumption; rintro e w' ⟨rfl, hx'⟩)
      | (go_at_call 22; refine (quote_y (g := w.heap.size) (cs := #[.int .i64 (0), .int .i64 att, .string nm, .int .i64 (2), .int .i64 ow, .string rn, .int .i64 dl, .int .i64 tk]) (x := w.heap.size + 1) (xs := #[.int .i64 (2), .int .i64 ow, .string rn, .int .i64 dl]) (W := w) HE1.out hr ?_).mono ?_; assumption; rintro e w' ⟨rfl, hx'⟩)
      | (go_at_call_of 21 (Value.int .i64 tk); refine (dec_y (g := w.heap.size) (cs := #[.int .i64 (0), .int .i64 att, .string nm, .int .i64 (2), .int .i64 ow, .string rn, .int .i64 dl, .int .i64 tk]) (x := w.heap.size + 1) (xs := #[.int .i64 (2), .int .i64 ow, .string rn, .int .i64 dl]) (W := w) HE2.out t0 t1 ?_).mono ?_; assumption; rintro e w' ⟨rfl, hx'⟩)
      | fail)
  go_wp2_with fail
  go_ret
  exact ⟨by rw [← HV.out]; rfl, hx'.1.1⟩
set_option maxRecDepth 100000 in
set_option maxHeartbeats 8000000 in
theorem rrep_free (att : Int) (nm : ByteArray) (st : Int) (ow : Int) (rn : ByteArray) (dl : Int) (tk : Int) (w : World) (h1 : st ≠ 1) (h2 : st ≠ 2) (t0 : -9223372036854775808 ≤ tk) (t1 : tk ≤ 9223372036854775807)
     (ht : Tb w) :
    Calls Tryd.prog 11 #[.int .i64 7, .agg (rcs (0) att nm st ow rn dl tk)] w fun e w' => e = .returned (.string (str (Rq.jn [[70, 82, 69, 69], Lib.itoa tk]))) ∧ Below w.heap.size w w' := by
  have hx : Rx w.heap.size (rcs (0) att nm st ow rn dl tk) w (w.alloc (.cells (rcs (0) att nm st ow rn dl tk) 26)) :=
    ⟨(Below.refl _ _).alloc (Nat.le_refl _) _, Bk.new _ _ _, ht.past ((Below.refl _ _).alloc (Nat.le_refl _) _), by simp, Nat.le_refl _⟩
  have hk : Bk ((w.alloc (.cells (rcs (0) att nm st ow rn dl tk) 26)).alloc (.cells #[.int .i64 st, .int .i64 ow, .string rn, .int .i64 dl] 24)) (w.heap.size + 1) 24 #[.int .i64 st, .int .i64 ow, .string rn, .int .i64 dl] := by
    have := Bk.new (w.alloc (.cells (rcs (0) att nm st ow rn dl tk) 26)) 24 #[.int .i64 st, .int .i64 ow, .string rn, .int .i64 dl]
    simpa using this
  have hy : Ry w.heap.size (rcs (0) att nm st ow rn dl tk) (w.heap.size + 1) #[.int .i64 st, .int .i64 ow, .string rn, .int .i64 dl] w ((w.alloc (.cells (rcs (0) att nm st ow rn dl tk) 26)).alloc (.cells #[.int .i64 st, .int .i64 ow, .string rn, .int .i64 dl] 24)) := ⟨hx.alloc _, hk, by simp⟩
  have hs1 : (st == 1) = false := by simpa using h1
  have hs2 : (st == 2) = false := by simpa using h2
  clear h1 h2
  obtain ⟨E0, hE0⟩ : ∃ E, str (Lib.itoa tk) = E := ⟨_, rfl⟩
  have z0 : E0.size ≤ 20 := by rw [← hE0, str_size]; exact itoa_len tk t0 t1
  have HE0 := Lib.hid hE0
  clear hx hk ht hE0
  have y0 : (⟨#[70, 82, 69, 69, 32]⟩ : ByteArray).size = 5 := rfl
  have y1 : (⟨#[32]⟩ : ByteArray).size = 1 := rfl
  have b0 : 5 + E0.size ≤ 9223372036854775807 := by omega
  obtain ⟨P0, p0⟩ : ∃ P, (⟨#[70, 82, 69, 69, 32]⟩ : ByteArray) ++ E0 = P := ⟨_, rfl⟩
  have x0 : P0.size ≤ 25 := by rw [← p0, ByteArray.size_append]; omega
  have g0 : ∀ w0 : World, (Op.stringOp .add (⟨#[70, 82, 69, 69, 32]⟩ : ByteArray) E0).run Tryd.prog w0 = .ok (.string P0) w0 := fun w0 => (run_string_add_sum w0 _ _ (by first | exact b0 | omega)).trans (by rw [p0])
  have hv : P0 = str (Rq.jn [[70, 82, 69, 69], Lib.itoa tk]) := by
    rw [← p0, ← HE0.out]
    apply ByteArray.ext; apply Array.toList_inj.1; simp [ByteArray.data_append, str, Rq.jn]
  have HV := Lib.hid hv
  clear hv p0 x0 b0
  have q0 : (w.alloc (.cells (rcs (0) att nm st ow rn dl tk) 26)).cell? ⟨w.heap.size, 3, none⟩ = some (.int .i64 st) := (Bk.new _ _ _).cell 3
  clear q0
  unfold rcs at hy
  unfold rcs
  go_enter Tryd.func11, Tryd.ntmps11
  go_wp2_with fail
  refine (dec_y HE0.out t0 t1 hy).mono ?_
  rintro e w1 ⟨rfl, hx'⟩
  go_wp2_with fail
  go_ret
  exact ⟨by rw [← HV.out]; rfl, hx'.1.1⟩
set_option maxRecDepth 100000 in
set_option maxHeartbeats 8000000 in
theorem rrep_ok (op : Int) (att : Int) (nm : ByteArray) (st : Int) (ow : Int) (rn : ByteArray) (dl : Int) (tk : Int) (w : World) (h7 : op ≠ 7) (t0 : -9223372036854775808 ≤ tk) (t1 : tk ≤ 9223372036854775807)
     (ht : Tb w) :
    Calls Tryd.prog 11 #[.int .i64 op, .agg (rcs (0) att nm st ow rn dl tk)] w fun e w' => e = .returned (.string (str (Rq.jn [[79, 75], Lib.itoa tk]))) ∧ Below w.heap.size w w' := by
  have hx : Rx w.heap.size (rcs (0) att nm st ow rn dl tk) w (w.alloc (.cells (rcs (0) att nm st ow rn dl tk) 26)) :=
    ⟨(Below.refl _ _).alloc (Nat.le_refl _) _, Bk.new _ _ _, ht.past ((Below.refl _ _).alloc (Nat.le_refl _) _), by simp, Nat.le_refl _⟩
  have hk : Bk ((w.alloc (.cells (rcs (0) att nm st ow rn dl tk) 26)).alloc (.cells #[.int .i64 st, .int .i64 ow, .string rn, .int .i64 dl] 24)) (w.heap.size + 1) 24 #[.int .i64 st, .int .i64 ow, .string rn, .int .i64 dl] := by
    have := Bk.new (w.alloc (.cells (rcs (0) att nm st ow rn dl tk) 26)) 24 #[.int .i64 st, .int .i64 ow, .string rn, .int .i64 dl]
    simpa using this
  have hy : Ry w.heap.size (rcs (0) att nm st ow rn dl tk) (w.heap.size + 1) #[.int .i64 st, .int .i64 ow, .string rn, .int .i64 dl] w ((w.alloc (.cells (rcs (0) att nm st ow rn dl tk) 26)).alloc (.cells #[.int .i64 st, .int .i64 ow, .string rn, .int .i64 dl] 24)) := ⟨hx.alloc _, hk, by simp⟩
  have ho : (op == 7) = false := by simpa using h7
  clear h7
  obtain ⟨E0, hE0⟩ : ∃ E, str (Lib.itoa tk) = E := ⟨_, rfl⟩
  have z0 : E0.size ≤ 20 := by rw [← hE0, str_size]; exact itoa_len tk t0 t1
  have HE0 := Lib.hid hE0
  clear hx hk ht hE0
  have y0 : (⟨#[79, 75, 32]⟩ : ByteArray).size = 3 := rfl
  have y1 : (⟨#[32]⟩ : ByteArray).size = 1 := rfl
  have b0 : 3 + E0.size ≤ 9223372036854775807 := by omega
  obtain ⟨P0, p0⟩ : ∃ P, (⟨#[79, 75, 32]⟩ : ByteArray) ++ E0 = P := ⟨_, rfl⟩
  have x0 : P0.size ≤ 23 := by rw [← p0, ByteArray.size_append]; omega
  have g0 : ∀ w0 : World, (Op.stringOp .add (⟨#[79, 75, 32]⟩ : ByteArray) E0).run Tryd.prog w0 = .ok (.string P0) w0 := fun w0 => (run_string_add_sum w0 _ _ (by first | exact b0 | omega)).trans (by rw [p0])
  have hv : P0 = str (Rq.jn [[79, 75], Lib.itoa tk]) := by
    rw [← p0, ← HE0.out]
    apply ByteArray.ext; apply Array.toList_inj.1; simp [ByteArray.data_append, str, Rq.jn]
  have HV := Lib.hid hv
  clear hv p0 x0 b0
  have q0 : (w.alloc (.cells (rcs (0) att nm st ow rn dl tk) 26)).cell? ⟨w.heap.size, 3, none⟩ = some (.int .i64 st) := (Bk.new _ _ _).cell 3
  clear q0
  unfold rcs at hy
  unfold rcs
  go_enter Tryd.func11, Tryd.ntmps11
  go_wp2_with fail
  refine (dec_y HE0.out t0 t1 hy).mono ?_
  rintro e w1 ⟨rfl, hx'⟩
  go_wp2_with fail
  go_ret
  exact ⟨by rw [← HV.out]; rfl, hx'.1.1⟩
/-- The reference's Reply, for all responses. -/
theorem rreply_any (op er att : Int) (nm : ByteArray) (st ow : Int) (rn : ByteArray) (dl tk : Int) (w : World)
    (e0 : -9223372036854775808 ≤ er) (e1 : er ≤ 9223372036854775807) (a0 : -9223372036854775808 ≤ att) (a1 : att ≤ 9223372036854775807) (o0 : -9223372036854775808 ≤ ow) (o1 : ow ≤ 9223372036854775807)
    (d0 : -9223372036854775808 ≤ dl) (d1 : dl ≤ 9223372036854775807) (t0 : -9223372036854775808 ≤ tk) (t1 : tk ≤ 9223372036854775807) (hn : nm.size ≤ 35184372088832) (hr : rn.size ≤ 35184372088832) (ht : Tb w) :
    Calls Tryd.prog 11 #[.int .i64 op, .agg (rcs er att nm st ow rn dl tk)] w fun e w' => e = .returned (.string (str (Rq.rpl op er att tk (lst nm) st ow dl (lst rn)))) ∧ Below w.heap.size w w' := by
  unfold Rq.rpl Rq.rws
  by_cases he : er = 0
  · subst he
    rw [if_neg (by simp)]
    by_cases h7 : op = 7
    · subst h7
      by_cases h1 : st = 1
      · subst h1
        rw [if_pos ⟨rfl, rfl⟩]
        exact rrep_held att nm ow rn dl tk w o0 o1 d0 d1 t0 t1 hr ht
      · rw [if_neg (by simp [h1])]
        by_cases h2 : st = 2
        · subst h2
          rw [if_pos ⟨rfl, rfl⟩]
          exact rrep_conf att nm ow rn dl tk w o0 o1 t0 t1 hr ht
        · rw [if_neg (by simp [h2]), if_pos rfl]
          exact rrep_free att nm st ow rn dl tk w h1 h2 t0 t1 ht
    · rw [if_neg (by simp [h7]), if_neg (by simp [h7]), if_neg h7]
      exact rrep_ok op att nm st ow rn dl tk w h7 t0 t1 ht
  · rw [if_pos he]
    exact rrep_err op er att nm st ow rn dl tk w he e0 e1 a0 a1 t0 t1 hn ht
end Go.Proofs.YtgidnkodgdoijaaDoor
