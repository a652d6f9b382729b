/- The walk of request.Reply. -/
import Derived.Test.YtgidnkodgdoijaaDoorRpL
import Derived.Deep.RegionHeld3
namespace Go.Proofs.YtgidnkodgdoijaaDoor
open Go Go.RowKit Go.Proofs
set_option linter.unusedVariables false

/-- The response in block g; the table is there; all that was there is as it was. -/
def Rx (g : Nat) (cs : Array Value) (W w : World) : Prop := Below W.heap.size W w ∧ Bk w g 26 cs ∧ Tb w ∧ g < w.heap.size ∧ W.heap.size ≤ g
section
variable {g : Nat} {cs : Array Value} {W w : World}
theorem Rx.alloc (h : Rx g cs W w) (o : Obj) : Rx g cs W (w.alloc o) := ⟨h.1.alloc h.1.size o, h.2.1.alloc o, h.2.2.1.past ((Below.refl _ _).alloc (Nat.le_refl _) o), by have := h.2.2.2.1; simp; omega, h.2.2.2.2⟩
theorem Rx.drewN (h : Rx g cs W w) (n : Nat) : Rx g cs W (w.drewN n) := ⟨below_drewN h.1 n, h.2.1.drewN n, h.2.2.1.past (below_drewN (Below.refl _ _) n), h.2.2.2.1, h.2.2.2.2⟩
theorem Rx.drew (h : Rx g cs W w) : Rx g cs W w.drew := h.drewN 1
theorem Rx.past {w' : World} (h : Rx g cs W w) (hb : Below w.heap.size w w') : Rx g cs W w' := ⟨h.1.trans (hb.mono h.1.size), h.2.1.below hb h.2.2.2.1, h.2.2.1.past hb, Nat.lt_of_lt_of_le h.2.2.2.1 hb.size, h.2.2.2.2⟩
theorem itoa_x (n : Int) (h : Rx g cs W w) (h0 : -9223372036854775808 ≤ n) (h1 : n ≤ 9223372036854775807) :
    Calls Tryd.prog 18 #[.int .i64 n] w fun e w' => e = .returned (.string (str (Lib.itoa n))) ∧ Rx g cs W w' := by
  refine (itoa_any n h0 h1 w h.2.2.1).mono ?_
  rintro e w' ⟨rfl, hb⟩
  exact ⟨rfl, h.past hb⟩
theorem quote_x (s : ByteArray) (h : Rx g cs W w) (hs : s.size ≤ 35184372088832) :
    Calls Tryd.prog 19 #[.string s] w fun e w' => e = .returned (.string (str (Rq.quote (lst s)))) ∧ Rx g cs W w' := by
  refine (quote_any s hs w).mono ?_
  rintro e w' ⟨rfl, hb⟩
  exact ⟨rfl, h.past hb⟩
end
/-- The cells of a response. -/
def rcs (er att : Int) (nm : ByteArray) (st ow : Int) (rn : ByteArray) (dl tk : Int) : Array Value := #[.int .i64 er, .int .i64 att, .string nm, .int .i64 st, .int .i64 ow, .string rn, .int .i64 dl, .int .i64 tk]
def SR (g : Nat) (er att : Int) (nm : ByteArray) (st ow : Int) (rn : ByteArray) (dl tk : Int) (w : World) : Prop :=
  w.cell? ⟨g, 0, none⟩ = some (.int .i64 er) ∧ w.cell? ⟨g, 1, none⟩ = some (.int .i64 att) ∧ w.cell? ⟨g, 2, none⟩ = some (.string nm) ∧ w.cell? ⟨g, 3, none⟩ = some (.int .i64 st) ∧ w.cell? ⟨g, 4, none⟩ = some (.int .i64 ow) ∧ w.cell? ⟨g, 5, none⟩ = some (.string rn) ∧ w.cell? ⟨g, 6, none⟩ = some (.int .i64 dl) ∧ w.cell? ⟨g, 7, none⟩ = some (.int .i64 tk)
theorem Rx.cells {g : Nat} {W w : World} {er att : Int} {nm : ByteArray} {st ow : Int} {rn : ByteArray} {dl tk : Int} (h : Rx g (rcs er att nm st ow rn dl tk) W w) : SR g er att nm st ow rn dl tk w :=
  ⟨h.2.1.cell 0, h.2.1.cell 1, h.2.1.cell 2, h.2.1.cell 3, h.2.1.cell 4, h.2.1.cell 5, h.2.1.cell 6, h.2.1.cell 7⟩
theorem jn_le : ∀ l : List (List UInt8), (Rq.jn l).length ≤ (l.map (fun x => x.length + 1)).sum
  | [] => by simp [Rq.jn]
  | [w] => by simp [Rq.jn]
  | w :: v :: r => by
    have h := jn_le (v :: r)
    show (w ++ 32 :: Rq.jn (v :: r)).length ≤ _
    rw [List.map_cons, List.sum_cons, List.length_append, List.length_cons]
    omega
theorem itoa_len (n : Int) (h0 : -9223372036854775808 ≤ n) (h1 : n ≤ 9223372036854775807) : (Lib.itoa n).length ≤ 20 := by
  unfold Lib.itoa
  split
  · have h := dd_len 19 n.natAbs (by omega) (by omega)
    rw [List.length_cons]
    first | omega | (have h' := dd_len 19 (-n).toNat (by omega) (by omega); omega)
  · have h := dd_len 19 n.toNat (by omega) (by omega)
    omega
/-- strings.Join of words that lie in a new row. -/
theorem join_x {g : Nat} {cs : Array Value} {W w : World} (h : Rx g cs W w) (l : List (List UInt8)) (n : Nat) (hn : l.length = n) (h0 : 0 < n) (h8 : n ≤ 8) (hl : (Rq.jn l).length ≤ 140737488355328) :
    Calls Tryd.prog 20 #[.slice (some ⟨w.heap.size, 0, none⟩) n n, .string ⟨#[32]⟩] (w.alloc (.cells (strs (l.map str)).toArray 9)) fun e w' => e = .returned (.string (str (Rq.jn l))) ∧ Below W.heap.size W w' := by
  have hx := h.alloc (.cells (strs (l.map str)).toArray 9)
  have hz := hx.1.size
  have hr : Rd (w.alloc (.cells (strs (l.map str)).toArray 9)) (w.heap.size + 1) 1 (some ⟨w.heap.size, 0, none⟩) n (strs (l.map str)) := by
    have := Rd.of_own (own_built w 0 9 (strs (l.map str)).toArray n (by simp [strs, hn]) (by unfold maxLen; omega) (Nat.zero_le _))
    simpa using this
  refine (join_any (some ⟨w.heap.size, 0, none⟩) n n l (w.heap.size + 1) _ hr h0 (by simp) (Nat.le_refl _) (by omega) hl).mono ?_
  rintro e w' ⟨rfl, hb⟩
  exact ⟨rfl, hx.1.trans (hb.mono hz)⟩
theorem reply_err_s {g : Nat} {W w : World} {er : Int} {att : Int} {nm : ByteArray} {st : Int} {ow : Int} {rn : ByteArray} {dl : Int} {tk : Int} (h : Rx g (rcs er att nm st ow rn dl tk) W w) :
    w.cell? ⟨g, 0, none⟩ = some (.int .i64 er) ∧ w.cell? ⟨g, 1, none⟩ = some (.int .i64 att) ∧ w.cell? ⟨g, 7, none⟩ = some (.int .i64 tk) ∧ w.cell? ⟨g, 2, none⟩ = some (.string nm) :=
  ⟨h.2.1.cell 0, h.2.1.cell 1, h.2.1.cell 7, h.2.1.cell 2⟩
set_option maxRecDepth 100000 in
set_option maxHeartbeats 8000000 in
theorem reply_err (op : Int) (er : Int) (att : Int) (nm : ByteArray) (st : Int) (ow : Int) (rn : ByteArray) (dl : Int) (tk : Int) (w : World) (he : er ≠ 0) (e0 : -9223372036854775808 ≤ er) (e1 : er ≤ 9223372036854775807) (a0 : -9223372036854775808 ≤ att) (a1 : att ≤ 9223372036854775807) (t0 : -9223372036854775808 ≤ tk) (t1 : tk ≤ 9223372036854775807)
    (hn : nm.size ≤ 35184372088832) (ht : Tb w) :
    Calls Tryd.prog 10 #[.int .i64 op, .agg (rcs er att nm st ow rn dl tk)] w fun e w' => e = .returned (.string (str (Rq.jn [[69, 82, 82], Lib.itoa er, Lib.itoa att, Lib.itoa tk, Rq.quote (lst nm)]))) ∧ Below w.heap.size w w' := by
  have hx : Rx w.heap.size (rcs er att nm st ow rn dl tk) w (w.alloc (.cells (rcs er att nm st ow rn dl tk) 26)) :=
    ⟨(Below.refl _ _).alloc (Nat.le_refl _) _, Bk.new _ _ _, ht.past ((Below.refl _ _).alloc (Nat.le_refl _) _), by simp, Nat.le_refl _⟩
  have HX := Lib.hid hx
  have hne : (er != 0) = true := by simpa using he
  clear he
  clear hx ht
  unfold rcs
  go_enter Tryd.func10, Tryd.ntmps10
  go_wp2_with fail
  refine (itoa_x tk HX.out t0 t1).mono ?_
  rintro e w1 ⟨rfl, hx1⟩
  have hx2 := hx1.alloc (.cells #[.string ⟨#[79, 75]⟩, .string (str (Lib.itoa tk))] 9)
  have k0 := hx2.cells.1
  have k3 := hx2.cells.2.2.2.1
  clear HX hx1
  go_upto_region 4 with fail
  clear k0 k3
  generalize w1.alloc (.cells #[.string ⟨#[79, 75]⟩, .string (str (Lib.itoa tk))] 9) = w2 at *
  have hx3 := hx2.drew
  go_region_held3 (fun w' => w'.cell? ⟨w.heap.size, 0, none⟩ = some (.int .i64 er) ∧ w'.cell? ⟨w.heap.size, 1, none⟩ = some (.int .i64 att) ∧ w'.cell? ⟨w.heap.size, 7, none⟩ = some (.int .i64 tk) ∧ w'.cell? ⟨w.heap.size, 2, none⟩ = some (.string nm))
    (first | (refine reply_err_s (W := w) (er := er) (att := att) (nm := nm) (st := st) (ow := ow) (rn := rn) (dl := dl) (tk := tk) ?_; assumption) | (refine reply_err_s (W := w) (er := er) (att := att) (nm := nm) (st := st) (ow := ow) (rn := rn) (dl := dl) (tk := tk) (Rx.alloc ?_ _); assumption))
    (first
      | (go_at_call 18; refine (itoa_x (g := w.heap.size) (cs := rcs er att nm st ow rn dl tk) (W := w) _ ?_ ?_ ?_).mono ?_; assumption; assumption; assumption; rintro e w' ⟨rfl, hx'⟩)
      | (go_at_call 19; refine (quote_x (g := w.heap.size) (cs := rcs er att nm st ow rn dl tk) (W := w) _ ?_ hn).mono ?_; assumption; rintro e w' ⟨rfl, hx'⟩)
      | fail)
  go_wp2_with fail
  refine (join_x hx' [[69, 82, 82], Lib.itoa er, Lib.itoa att, Lib.itoa tk, Rq.quote (lst nm)] 5 rfl (by omega) (by omega) ?_).mono ?_
  · have i0 := itoa_len er e0 e1
    have i1 := itoa_len att a0 a1
    have i2 := itoa_len tk t0 t1
    have q0 := (Rq.quote_len (lst nm)).2.2
    rw [lst_length] at q0
    refine Nat.le_trans (jn_le _) ?_
    simp only [List.map_cons, List.map_nil, List.sum_cons, List.sum_nil, List.length_cons, List.length_nil]
    omega
  rintro e w8 ⟨rfl, hb8⟩
  go_wp2_with fail
  go_ret
  exact ⟨rfl, hb8⟩
theorem reply_held_s {g : Nat} {W w : World} {att : Int} {nm : ByteArray} {ow : Int} {rn : ByteArray} {dl : Int} {tk : Int} (h : Rx g (rcs (0) att nm (1) ow rn dl tk) W w) :
    w.cell? ⟨g, 4, none⟩ = some (.int .i64 ow) ∧ w.cell? ⟨g, 6, none⟩ = some (.int .i64 dl) ∧ w.cell? ⟨g, 5, none⟩ = some (.string rn) ∧ w.cell? ⟨g, 7, none⟩ = some (.int .i64 tk) :=
  ⟨h.2.1.cell 4, h.2.1.cell 6, h.2.1.cell 5, h.2.1.cell 7⟩
set_option maxRecDepth 100000 in
set_option maxHeartbeats 8000000 in
theorem reply_held (att : Int) (nm : ByteArray) (ow : Int) (rn : ByteArray) (dl : Int) (tk : Int) (w : World)  (o0 : -9223372036854775808 ≤ ow) (o1 : ow ≤ 9223372036854775807) (d0 : -9223372036854775808 ≤ dl) (d1 : dl ≤ 9223372036854775807) (t0 : -9223372036854775808 ≤ tk) (t1 : tk ≤ 9223372036854775807)
    (hr : rn.size ≤ 35184372088832) (ht : Tb w) :
    Calls Tryd.prog 10 #[.int .i64 7, .agg (rcs (0) att nm (1) ow rn dl tk)] w fun e w' => e = .returned (.string (str (Rq.jn [[72, 69, 76, 68], Lib.itoa ow, Lib.itoa dl, Rq.quote (lst rn), Lib.itoa tk]))) ∧ Below w.heap.size w w' := by
  have hx : Rx w.heap.size (rcs (0) att nm (1) ow rn dl tk) w (w.alloc (.cells (rcs (0) att nm (1) ow rn dl tk) 26)) :=
    ⟨(Below.refl _ _).alloc (Nat.le_refl _) _, Bk.new _ _ _, ht.past ((Below.refl _ _).alloc (Nat.le_refl _) _), by simp, Nat.le_refl _⟩
  have HX := Lib.hid hx
  clear hx ht
  unfold rcs
  go_enter Tryd.func10, Tryd.ntmps10
  go_wp2_with fail
  refine (itoa_x tk HX.out t0 t1).mono ?_
  rintro e w1 ⟨rfl, hx1⟩
  have hx2 := hx1.alloc (.cells #[.string ⟨#[79, 75]⟩, .string (str (Lib.itoa tk))] 9)
  have k0 := hx2.cells.1
  have k3 := hx2.cells.2.2.2.1
  clear HX hx1
  go_upto_region 6 with fail
  clear k0 k3
  generalize w1.alloc (.cells #[.string ⟨#[79, 75]⟩, .string (str (Lib.itoa tk))] 9) = w2 at *
  have hx3 := hx2.drew
  go_region_held3 (fun w' => w'.cell? ⟨w.heap.size, 4, none⟩ = some (.int .i64 ow) ∧ w'.cell? ⟨w.heap.size, 6, none⟩ = some (.int .i64 dl) ∧ w'.cell? ⟨w.heap.size, 5, none⟩ = some (.string rn) ∧ w'.cell? ⟨w.heap.size, 7, none⟩ = some (.int .i64 tk))
    (first | (refine reply_held_s (W := w) (att := att) (nm := nm) (ow := ow) (rn := rn) (dl := dl) (tk := tk) ?_; assumption) | (refine reply_held_s (W := w) (att := att) (nm := nm) (ow := ow) (rn := rn) (dl := dl) (tk := tk) (Rx.alloc ?_ _); assumption))
    (first
      | (go_at_call 18; refine (itoa_x (g := w.heap.size) (cs := rcs (0) att nm (1) ow rn dl tk) (W := w) _ ?_ ?_ ?_).mono ?_; assumption; assumption; assumption; rintro e w' ⟨rfl, hx'⟩)
      | (go_at_call 19; refine (quote_x (g := w.heap.size) (cs := rcs (0) att nm (1) ow rn dl tk) (W := w) _ ?_ hr).mono ?_; assumption; rintro e w' ⟨rfl, hx'⟩)
      | fail)
  go_wp2_with fail
  refine (join_x hx' [[72, 69, 76, 68], Lib.itoa ow, Lib.itoa dl, Rq.quote (lst rn), Lib.itoa tk] 5 rfl (by omega) (by omega) ?_).mono ?_
  · have i0 := itoa_len ow o0 o1
    have i1 := itoa_len dl d0 d1
    have i3 := itoa_len tk t0 t1
    have q0 := (Rq.quote_len (lst rn)).2.2
    rw [lst_length] at q0
    refine Nat.le_trans (jn_le _) ?_
    simp only [List.map_cons, List.map_nil, List.sum_cons, List.sum_nil, List.length_cons, List.length_nil]
    omega
  rintro e w8 ⟨rfl, hb8⟩
  go_wp2_with fail
  go_ret
  exact ⟨rfl, hb8⟩
theorem reply_conf_s {g : Nat} {W w : World} {att : Int} {nm : ByteArray} {ow : Int} {rn : ByteArray} {dl : Int} {tk : Int} (h : Rx g (rcs (0) att nm (2) ow rn dl tk) W w) :
    w.cell? ⟨g, 4, none⟩ = some (.int .i64 ow) ∧ w.cell? ⟨g, 5, none⟩ = some (.string rn) ∧ w.cell? ⟨g, 7, none⟩ = some (.int .i64 tk) :=
  ⟨h.2.1.cell 4, h.2.1.cell 5, h.2.1.cell 7⟩
set_option maxRecDepth 100000 in
set_option maxHeartbeats 8000000 in
theorem reply_conf (att : Int) (nm : ByteArray) (ow : Int) (rn : ByteArray) (dl : Int) (tk : Int) (w : World)  (o0 : -9223372036854775808 ≤ ow) (o1 : ow ≤ 9223372036854775807) (t0 : -9223372036854775808 ≤ tk) (t1 : tk ≤ 9223372036854775807)
    (hr : rn.size ≤ 35184372088832) (ht : Tb w) :
    Calls Tryd.prog 10 #[.int .i64 7, .agg (rcs (0) att nm (2) ow rn dl tk)] w fun e w' => e = .returned (.string (str (Rq.jn [[67, 79, 78, 70, 73, 82, 77, 69, 68], Lib.itoa ow, Rq.quote (lst rn), Lib.itoa tk]))) ∧ Below w.heap.size w w' := by
  have hx : Rx w.heap.size (rcs (0) att nm (2) ow rn dl tk) w (w.alloc (.cells (rcs (0) att nm (2) ow rn dl tk) 26)) :=
    ⟨(Below.refl _ _).alloc (Nat.le_refl _) _, Bk.new _ _ _, ht.past ((Below.refl _ _).alloc (Nat.le_refl _) _), by simp, Nat.le_refl _⟩
  have HX := Lib.hid hx
  clear hx ht
  unfold rcs
  go_enter Tryd.func10, Tryd.ntmps10
  go_wp2_with fail
  refine (itoa_x tk HX.out t0 t1).mono ?_
  rintro e w1 ⟨rfl, hx1⟩
  have hx2 := hx1.alloc (.cells #[.string ⟨#[79, 75]⟩, .string (str (Lib.itoa tk))] 9)
  have k0 := hx2.cells.1
  have k3 := hx2.cells.2.2.2.1
  clear HX hx1
  go_upto_region 8 with fail
  clear k0 k3
  generalize w1.alloc (.cells #[.string ⟨#[79, 75]⟩, .string (str (Lib.itoa tk))] 9) = w2 at *
  have hx3 := hx2.drew
  go_region_held3 (fun w' => w'.cell? ⟨w.heap.size, 4, none⟩ = some (.int .i64 ow) ∧ w'.cell? ⟨w.heap.size, 5, none⟩ = some (.string rn) ∧ w'.cell? ⟨w.heap.size, 7, none⟩ = some (.int .i64 tk))
    (first | (refine reply_conf_s (W := w) (att := att) (nm := nm) (ow := ow) (rn := rn) (dl := dl) (tk := tk) ?_; assumption) | (refine reply_conf_s (W := w) (att := att) (nm := nm) (ow := ow) (rn := rn) (dl := dl) (tk := tk) (Rx.alloc ?_ _); assumption))
    (first
      | (go_at_call 18; refine (itoa_x (g := w.heap.size) (cs := rcs (0) att nm (2) ow rn dl tk) (W := w) _ ?_ ?_ ?_).mono ?_; assumption; assumption; assumption; rintro e w' ⟨rfl, hx'⟩)
      | (go_at_call 19; refine (quote_x (g := w.heap.size) (cs := rcs (0) att nm (2) ow rn dl tk) (W := w) _ ?_ hr).mono ?_; assumption; rintro e w' ⟨rfl, hx'⟩)
      | fail)
  go_wp2_with fail
  refine (join_x hx' [[67, 79, 78, 70, 73, 82, 77, 69, 68], Lib.itoa ow, Rq.quote (lst rn), Lib.itoa tk] 4 rfl (by omega) (by omega) ?_).mono ?_
  · have i0 := itoa_len ow o0 o1
    have i2 := itoa_len tk t0 t1
    have q0 := (Rq.quote_len (lst rn)).2.2
    rw [lst_length] at q0
    refine Nat.le_trans (jn_le _) ?_
    simp only [List.map_cons, List.map_nil, List.sum_cons, List.sum_nil, List.length_cons, List.length_nil]
    omega
  rintro e w8 ⟨rfl, hb8⟩
  go_wp2_with fail
  go_ret
  exact ⟨rfl, hb8⟩
set_option maxRecDepth 100000 in
set_option maxHeartbeats 8000000 in
theorem reply_free (att : Int) (nm : ByteArray) (st : Int) (ow : Int) (rn : ByteArray) (dl : Int) (tk : Int) (w : World) (h1 : st ≠ 1) (h2 : st ≠ 2) (t0 : -9223372036854775808 ≤ tk) (t1 : tk ≤ 9223372036854775807)
     (ht : Tb w) :
    Calls Tryd.prog 10 #[.int .i64 7, .agg (rcs (0) att nm st ow rn dl tk)] w fun e w' => e = .returned (.string (str (Rq.jn [[70, 82, 69, 69], Lib.itoa tk]))) ∧ Below w.heap.size w w' := by
  have hx : Rx w.heap.size (rcs (0) att nm st ow rn dl tk) w (w.alloc (.cells (rcs (0) att nm st ow rn dl tk) 26)) :=
    ⟨(Below.refl _ _).alloc (Nat.le_refl _) _, Bk.new _ _ _, ht.past ((Below.refl _ _).alloc (Nat.le_refl _) _), by simp, Nat.le_refl _⟩
  have HX := Lib.hid hx
  have hs1 : (st == 1) = false := by simpa using h1
  have hs2 : (st == 2) = false := by simpa using h2
  clear h1 h2
  clear hx ht
  unfold rcs
  go_enter Tryd.func10, Tryd.ntmps10
  go_wp2_with fail
  refine (itoa_x tk HX.out t0 t1).mono ?_
  rintro e w1 ⟨rfl, hx1⟩
  have hx2 := hx1.alloc (.cells #[.string ⟨#[79, 75]⟩, .string (str (Lib.itoa tk))] 9)
  have k0 := hx2.cells.1
  have k3 := hx2.cells.2.2.2.1
  clear HX
  go_wp2_with fail
  refine (join_x hx1 [[70, 82, 69, 69], Lib.itoa tk] 2 rfl (by omega) (by omega) ?_).mono ?_
  · have i0 := itoa_len tk t0 t1
    refine Nat.le_trans (jn_le _) ?_
    simp only [List.map_cons, List.map_nil, List.sum_cons, List.sum_nil, List.length_cons, List.length_nil]
    omega
  rintro e w8 ⟨rfl, hb8⟩
  go_wp2_with fail
  go_ret
  exact ⟨rfl, hb8⟩
set_option maxRecDepth 100000 in
set_option maxHeartbeats 8000000 in
theorem reply_ok (op : Int) (att : Int) (nm : ByteArray) (st : Int) (ow : Int) (rn : ByteArray) (dl : Int) (tk : Int) (w : World) (h7 : op ≠ 7) (t0 : -9223372036854775808 ≤ tk) (t1 : tk ≤ 9223372036854775807)
     (ht : Tb w) :
    Calls Tryd.prog 10 #[.int .i64 op, .agg (rcs (0) att nm st ow rn dl tk)] w fun e w' => e = .returned (.string (str (Rq.jn [[79, 75], Lib.itoa tk]))) ∧ Below w.heap.size w w' := by
  have hx : Rx w.heap.size (rcs (0) att nm st ow rn dl tk) w (w.alloc (.cells (rcs (0) att nm st ow rn dl tk) 26)) :=
    ⟨(Below.refl _ _).alloc (Nat.le_refl _) _, Bk.new _ _ _, ht.past ((Below.refl _ _).alloc (Nat.le_refl _) _), by simp, Nat.le_refl _⟩
  have HX := Lib.hid hx
  have ho : (op == 7) = false := by simpa using h7
  clear h7
  clear hx ht
  unfold rcs
  go_enter Tryd.func10, Tryd.ntmps10
  go_wp2_with fail
  refine (itoa_x tk HX.out t0 t1).mono ?_
  rintro e w1 ⟨rfl, hx1⟩
  have hx2 := hx1.alloc (.cells #[.string ⟨#[79, 75]⟩, .string (str (Lib.itoa tk))] 9)
  have k0 := hx2.cells.1
  have k3 := hx2.cells.2.2.2.1
  clear HX
  go_wp2_with fail
  refine (join_x hx1 [[79, 75], Lib.itoa tk] 2 rfl (by omega) (by omega) ?_).mono ?_
  · have i0 := itoa_len tk t0 t1
    refine Nat.le_trans (jn_le _) ?_
    simp only [List.map_cons, List.map_nil, List.sum_cons, List.sum_nil, List.length_cons, List.length_nil]
    omega
  rintro e w8 ⟨rfl, hb8⟩
  go_wp2_with fail
  go_ret
  exact ⟨rfl, hb8⟩
/-- Reply, for all responses. -/
theorem reply_any (op er att : Int) (nm : ByteArray) (st ow : Int) (rn : ByteArray) (dl tk : Int) (w : World)
    (e0 : -9223372036854775808 ≤ er) (e1 : er ≤ 9223372036854775807) (a0 : -9223372036854775808 ≤ att) (a1 : att ≤ 9223372036854775807) (o0 : -9223372036854775808 ≤ ow) (o1 : ow ≤ 9223372036854775807)
    (d0 : -9223372036854775808 ≤ dl) (d1 : dl ≤ 9223372036854775807) (t0 : -9223372036854775808 ≤ tk) (t1 : tk ≤ 9223372036854775807) (hn : nm.size ≤ 35184372088832) (hr : rn.size ≤ 35184372088832) (ht : Tb w) :
    Calls Tryd.prog 10 #[.int .i64 op, .agg (rcs er att nm st ow rn dl tk)] w fun e w' => e = .returned (.string (str (Rq.rpl op er att tk (lst nm) st ow dl (lst rn)))) ∧ Below w.heap.size w w' := by
  unfold Rq.rpl Rq.rws
  by_cases he : er = 0
  · subst he
    rw [if_neg (by simp)]
    by_cases h7 : op = 7
    · subst h7
      by_cases h1 : st = 1
      · subst h1
        rw [if_pos ⟨rfl, rfl⟩]
        exact reply_held att nm ow rn dl tk w o0 o1 d0 d1 t0 t1 hr ht
      · rw [if_neg (by simp [h1])]
        by_cases h2 : st = 2
        · subst h2
          rw [if_pos ⟨rfl, rfl⟩]
          exact reply_conf att nm ow rn dl tk w o0 o1 t0 t1 hr ht
        · rw [if_neg (by simp [h2]), if_pos rfl]
          exact reply_free att nm st ow rn dl tk w h1 h2 t0 t1 ht
    · rw [if_neg (by simp [h7]), if_neg (by simp [h7]), if_neg h7]
      exact reply_ok op att nm st ow rn dl tk w h7 t0 t1 ht
  · rw [if_pos he]
    exact reply_err op er att nm st ow rn dl tk w he e0 e1 a0 a1 t0 t1 hn ht
end Go.Proofs.YtgidnkodgdoijaaDoor
