/- The walk of the law RequestReply. -/
import Derived.Test.YtgidnkodgdoijaaDoorRpR
import Derived.Test.YtgidnkodgdoijaaDoorRpK
namespace Go.Proofs.YtgidnkodgdoijaaDoor
open Go Go.RowKit Go.Proofs
set_option linter.unusedVariables false

/-- Two responses lie in two blocks; the table is there; all that was there is as it was. -/
def Rz (g : Nat) (cs : Array Value) (x : Nat) (xs : Array Value) (W w : World) : Prop :=
  Below W.heap.size W w ∧ Bk w g 26 cs ∧ Bk w x 26 xs ∧ Tb w ∧ g < w.heap.size ∧ x < w.heap.size
section
variable {g x : Nat} {cs xs : Array Value} {W w : World}
theorem Rz.past {w' : World} (h : Rz g cs x xs W w) (hb : Below w.heap.size w w') : Rz g cs x xs W w' :=
  ⟨h.1.trans (hb.mono h.1.size), h.2.1.below hb h.2.2.2.2.1, h.2.2.1.below hb h.2.2.2.2.2, h.2.2.2.1.past hb, Nat.lt_of_lt_of_le h.2.2.2.2.1 hb.size, Nat.lt_of_lt_of_le h.2.2.2.2.2 hb.size⟩
theorem Rz.drew (h : Rz g cs x xs W w) : Rz g cs x xs W w.drew := h.past (below_drewN (Below.refl _ _) 1)
theorem awake_z (h : Rz g cs x xs W w) : Calls Tryd.prog 9 #[] w fun e w' => e = .returned (.bool true) ∧ Rz g cs x xs W w' := by
  refine (awake27_any w).mono ?_
  rintro e w' ⟨rfl, hb⟩
  exact ⟨rfl, h.past hb⟩
/-- What a call of one of the two functions comes to, at worlds of this kind. -/
def Rep (F : FuncId) (op : Int) (vs : Array Value) (g : Nat) (cs : Array Value) (x : Nat) (xs : Array Value) (W : World) (T : ByteArray) : Prop :=
  ∀ w, Rz g cs x xs W w → Calls Tryd.prog F #[.int .i64 op, .agg vs] w fun e w' => e = .returned (.string T) ∧ Rz g cs x xs W w'
theorem rep_both (op er att : Int) (nm : ByteArray) (st ow : Int) (rn : ByteArray) (dl tk : Int)
    (e0 : -9223372036854775808 ≤ er) (e1 : er ≤ 9223372036854775807) (a0 : -9223372036854775808 ≤ att) (a1 : att ≤ 9223372036854775807) (o0 : -9223372036854775808 ≤ ow) (o1 : ow ≤ 9223372036854775807)
    (d0 : -9223372036854775808 ≤ dl) (d1 : dl ≤ 9223372036854775807) (t0 : -9223372036854775808 ≤ tk) (t1 : tk ≤ 9223372036854775807) (hn : nm.size ≤ 35184372088832) (hr : rn.size ≤ 35184372088832) :
    ∃ T : ByteArray, Rep 10 op #[.int .i64 er, .int .i64 att, .string nm, .int .i64 st, .int .i64 ow, .string rn, .int .i64 dl, .int .i64 tk] g cs x xs W T ∧ Rep 11 op #[.int .i64 er, .int .i64 att, .string nm, .int .i64 st, .int .i64 ow, .string rn, .int .i64 dl, .int .i64 tk] g cs x xs W T := by
  refine ⟨str (Rq.rpl op er att tk (lst nm) st ow dl (lst rn)), fun w h => (reply_any op er att nm st ow rn dl tk w e0 e1 a0 a1 o0 o1 d0 d1 t0 t1 hn hr h.2.2.2.1).mono ?_, fun w h => (rreply_any op er att nm st ow rn dl tk w e0 e1 a0 a1 o0 o1 d0 d1 t0 t1 hn hr h.2.2.2.1).mono ?_⟩
  · rintro e w' ⟨rfl, hb⟩; exact ⟨rfl, h.past hb⟩
  · rintro e w' ⟨rfl, hb⟩; exact ⟨rfl, h.past hb⟩
end
theorem rz_cells {g x : Nat} {W w : World} {er att : Int} {nm : ByteArray} {st ow : Int} {rn : ByteArray} {dl tk : Int} {s2 o2 d2 t2 : Int} {n2 : ByteArray} (h : Rz g #[.int .i64 er, .int .i64 att, .string nm, .int .i64 st, .int .i64 ow, .string rn, .int .i64 dl, .int .i64 tk] x #[.int .i64 0, .int .i64 (-1), .string ⟨#[]⟩, .int .i64 s2, .int .i64 o2, .string n2, .int .i64 d2, .int .i64 t2] W w) :
    w.cell? ⟨g, 0, none⟩ = some (.int .i64 er) ∧ w.cell? ⟨g, 1, none⟩ = some (.int .i64 att) ∧ w.cell? ⟨g, 2, none⟩ = some (.string nm) ∧ w.cell? ⟨g, 3, none⟩ = some (.int .i64 st) ∧ w.cell? ⟨g, 4, none⟩ = some (.int .i64 ow) ∧ w.cell? ⟨g, 5, none⟩ = some (.string rn) ∧ w.cell? ⟨g, 6, none⟩ = some (.int .i64 dl) ∧ w.cell? ⟨g, 7, none⟩ = some (.int .i64 tk) ∧ w.cell? ⟨x, 0, none⟩ = some (.int .i64 0) ∧ w.cell? ⟨x, 1, none⟩ = some (.int .i64 (-1)) ∧ w.cell? ⟨x, 2, none⟩ = some (.string ⟨#[]⟩) ∧ w.cell? ⟨x, 3, none⟩ = some (.int .i64 s2) ∧ w.cell? ⟨x, 4, none⟩ = some (.int .i64 o2) ∧ w.cell? ⟨x, 5, none⟩ = some (.string n2) ∧ w.cell? ⟨x, 6, none⟩ = some (.int .i64 d2) ∧ w.cell? ⟨x, 7, none⟩ = some (.int .i64 t2) :=
  ⟨h.2.1.cell 0, h.2.1.cell 1, h.2.1.cell 2, h.2.1.cell 3, h.2.1.cell 4, h.2.1.cell 5, h.2.1.cell 6, h.2.1.cell 7, h.2.2.1.cell 0, h.2.2.1.cell 1, h.2.2.1.cell 2, h.2.2.1.cell 3, h.2.2.1.cell 4, h.2.2.1.cell 5, h.2.2.1.cell 6, h.2.2.1.cell 7⟩
set_option maxRecDepth 100000 in
set_option maxHeartbeats 8000000 in
theorem walk_RequestReply (op er att : Int) (nm : ByteArray) (st ow : Int) (rn : ByteArray) (dl tk : Int) (A : Option Addr) (c : Nat) (xs : List Int) (w : World)
    (e0 : -9223372036854775808 ≤ er) (e1 : er ≤ 9223372036854775807) (a0 : -9223372036854775808 ≤ att) (a1 : att ≤ 9223372036854775807) (o0 : -9223372036854775808 ≤ ow) (o1 : ow ≤ 9223372036854775807)
    (d0 : -9223372036854775808 ≤ dl) (d1 : dl ≤ 9223372036854775807) (t0 : -9223372036854775808 ≤ tk) (t1 : tk ≤ 9223372036854775807) (hn : nm.size ≤ 1048576) (hr : rn.size ≤ 1048576)
    (hx : Rd w w.heap.size 1 A xs.length (ints xs)) (hl : xs.length ≤ maxLen) (ht : Tb w) :
    Calls Tryd.prog 3 #[.int .i64 op, .agg #[.int .i64 er, .int .i64 att, .string nm, .int .i64 st, .int .i64 ow, .string rn, .int .i64 dl, .int .i64 tk], .slice A xs.length c] w fun e w' => e = .returned (.bool true) ∧ Below w.heap.size w w' := by
  have p0 := Kp.pick_lo op 99 (by omega)
  have p1 := Kp.pick_hi op 99 (by omega)
  generalize hP : Kp.pick op 99 = t2 at *
  generalize hQ : Kp.pick op 9 = K at *
  have HP := Lib.hid hP; have HQ := Lib.hid hQ; have HX := Lib.hid hx; have HL := Lib.hid hl; have HT := Lib.hid ht
  clear hP hQ hx hl ht
  go_enter Tryd.func3, Tryd.ntmps3
  go_wp2_with fail
  refine (pick_any op 99 (by omega) (by omega) _).mono ?_
  rw [HP.out]
  rintro e w9 ⟨rfl, rfl⟩
  go_wp2_with fail
  have hba : Below w.heap.size w (w.alloc (.cells #[.int .i64 er, .int .i64 att, .string nm, .int .i64 st, .int .i64 ow, .string rn, .int .i64 dl, .int .i64 tk] 26)) := (Below.refl _ _).alloc (Nat.le_refl _) _
  have HBA := Lib.hid hba
  have HKA := Lib.hid (Bk.new w 26 #[.int .i64 er, .int .i64 att, .string nm, .int .i64 st, .int .i64 ow, .string rn, .int .i64 dl, .int .i64 tk])
  clear hba
  refine (record_any A c xs (w.alloc (.cells #[.int .i64 er, .int .i64 att, .string nm, .int .i64 st, .int .i64 ow, .string rn, .int .i64 dl, .int .i64 tk] 26)) ((HX.out.below HBA.out).more HBA.out.size) HL.out).mono ?_
  rintro e w1 ⟨s2, o2, d2, n2, rfl, v0, v1, v2, v3, v4, v5, v6, hb1⟩
  have hs1 := hb1.size
  have hs0 : (w.alloc (.cells #[.int .i64 er, .int .i64 att, .string nm, .int .i64 st, .int .i64 ow, .string rn, .int .i64 dl, .int .i64 tk] 26)).heap.size = w.heap.size + 1 := by simp
  have HB1 := Lib.hid (HBA.out.trans (hb1.mono (by omega))); have HK1 := Lib.hid (HKA.out.below hb1 (by omega))
  clear hb1
  go_wp2_with fail
  refine (pick_any op 9 (by omega) (by omega) _).mono ?_
  rw [HQ.out]
  rintro e w9 ⟨rfl, rfl⟩
  go_wp2_with fail
  have hz : Rz w.heap.size #[.int .i64 er, .int .i64 att, .string nm, .int .i64 st, .int .i64 ow, .string rn, .int .i64 dl, .int .i64 tk] w1.heap.size #[.int .i64 0, .int .i64 (-1), .string ⟨#[]⟩, .int .i64 s2, .int .i64 o2, .string n2, .int .i64 d2, .int .i64 t2] w (w1.alloc (.cells #[.int .i64 0, .int .i64 (-1), .string ⟨#[]⟩, .int .i64 s2, .int .i64 o2, .string n2, .int .i64 d2, .int .i64 t2] 26)) :=
    ⟨HB1.out.alloc (by omega) _, HK1.out.alloc _, Bk.new _ _ _, HT.out.past (HB1.out.alloc (by omega) _), by simp; omega, by simp⟩
  generalize w1.alloc (.cells #[.int .i64 0, .int .i64 (-1), .string ⟨#[]⟩, .int .i64 s2, .int .i64 o2, .string n2, .int .i64 d2, .int .i64 t2] 26) = w2 at *
  have hz1 := hz.drew
  obtain ⟨T0, A0, B0⟩ := rep_both (g := w.heap.size) (cs := #[.int .i64 er, .int .i64 att, .string nm, .int .i64 st, .int .i64 ow, .string rn, .int .i64 dl, .int .i64 tk]) (x := w1.heap.size) (xs := #[.int .i64 0, .int .i64 (-1), .string ⟨#[]⟩, .int .i64 s2, .int .i64 o2, .string n2, .int .i64 d2, .int .i64 t2]) (W := w) op er att nm st ow rn dl tk e0 e1 a0 a1 o0 o1 d0 d1 t0 t1 (by omega) (by omega)
  have q0 : (T0.toList == T0.toList) = true := by simp
  obtain ⟨T1, A1, B1⟩ := rep_both (g := w.heap.size) (cs := #[.int .i64 er, .int .i64 att, .string nm, .int .i64 st, .int .i64 ow, .string rn, .int .i64 dl, .int .i64 tk]) (x := w1.heap.size) (xs := #[.int .i64 0, .int .i64 (-1), .string ⟨#[]⟩, .int .i64 s2, .int .i64 o2, .string n2, .int .i64 d2, .int .i64 t2]) (W := w) K er att nm st ow rn dl tk e0 e1 a0 a1 o0 o1 d0 d1 t0 t1 (by omega) (by omega)
  have q1 : (T1.toList == T1.toList) = true := by simp
  obtain ⟨T2, A2, B2⟩ := rep_both (g := w.heap.size) (cs := #[.int .i64 er, .int .i64 att, .string nm, .int .i64 st, .int .i64 ow, .string rn, .int .i64 dl, .int .i64 tk]) (x := w1.heap.size) (xs := #[.int .i64 0, .int .i64 (-1), .string ⟨#[]⟩, .int .i64 s2, .int .i64 o2, .string n2, .int .i64 d2, .int .i64 t2]) (W := w) K 0 (-1) ⟨#[]⟩ s2 o2 n2 d2 t2 (by omega) (by omega) (by omega) (by omega) (by omega) (by omega) (by omega) (by omega) (by omega) (by omega) (by decide) (by omega)
  have q2 : (T2.toList == T2.toList) = true := by simp
  obtain ⟨T3, A3, B3⟩ := rep_both (g := w.heap.size) (cs := #[.int .i64 er, .int .i64 att, .string nm, .int .i64 st, .int .i64 ow, .string rn, .int .i64 dl, .int .i64 tk]) (x := w1.heap.size) (xs := #[.int .i64 0, .int .i64 (-1), .string ⟨#[]⟩, .int .i64 s2, .int .i64 o2, .string n2, .int .i64 d2, .int .i64 t2]) (W := w) 7 0 (-1) ⟨#[]⟩ s2 o2 n2 d2 t2 (by omega) (by omega) (by omega) (by omega) (by omega) (by omega) (by omega) (by omega) (by omega) (by omega) (by decide) (by omega)
  have q3 : (T3.toList == T3.toList) = true := by simp
  clear p0 p1 v0 v1 v2 v3 v4 v5 v6 e0 e1 a0 a1 o0 o1 d0 d1 t0 t1 hn hr hs0 hs1 HBA HKA HB1 HK1
  go_region_held3 (fun w' => w'.cell? ⟨w.heap.size, 0, none⟩ = some (.int .i64 er) ∧ w'.cell? ⟨w.heap.size, 1, none⟩ = some (.int .i64 att) ∧ w'.cell? ⟨w.heap.size, 2, none⟩ = some (.string nm) ∧ w'.cell? ⟨w.heap.size, 3, none⟩ = some (.int .i64 st) ∧ w'.cell? ⟨w.heap.size, 4, none⟩ = some (.int .i64 ow) ∧ w'.cell? ⟨w.heap.size, 5, none⟩ = some (.string rn) ∧ w'.cell? ⟨w.heap.size, 6, none⟩ = some (.int .i64 dl) ∧ w'.cell? ⟨w.heap.size, 7, none⟩ = some (.int .i64 tk) ∧ w'.cell? ⟨w1.heap.size, 0, none⟩ = some (.int .i64 0) ∧ w'.cell? ⟨w1.heap.size, 1, none⟩ = some (.int .i64 (-1)) ∧ w'.cell? ⟨w1.heap.size, 2, none⟩ = some (.string ⟨#[]⟩) ∧ w'.cell? ⟨w1.heap.size, 3, none⟩ = some (.int .i64 s2) ∧ w'.cell? ⟨w1.heap.size, 4, none⟩ = some (.int .i64 o2) ∧ w'.cell? ⟨w1.heap.size, 5, none⟩ = some (.string n2) ∧ w'.cell? ⟨w1.heap.size, 6, none⟩ = some (.int .i64 d2) ∧ w'.cell? ⟨w1.heap.size, 7, none⟩ = some (.int .i64 t2))
    ((refine rz_cells (W := w) ?_; assumption))
    (first
      | (go_at_call 9; refine (awake_z (g := w.heap.size) (cs := #[.int .i64 er, .int .i64 att, .string nm, .int .i64 st, .int .i64 ow, .string rn, .int .i64 dl, .int .i64 tk]) (x := w1.heap.size) (xs := #[.int .i64 0, .int .i64 (-1), .string ⟨#[]⟩, .int .i64 s2, .int .i64 o2, .string n2, .int .i64 d2, .int .i64 t2]) (W := w) ?_).mono ?_; assumption; rintro e w' ⟨rfl, hz'⟩)
      | (go_at_call_of 10 (Value.int .i64 op); refine (A0 _ ?_).mono ?_; assumption; rintro e w' ⟨rfl, hz'⟩)
      | (go_at_call_of 10 (Value.int .i64 K); go_at_call_of 10 (Value.string nm); refine (A1 _ ?_).mono ?_; assumption; rintro e w' ⟨rfl, hz'⟩)
      | (go_at_call_of 10 (Value.int .i64 K); go_at_call_of 10 (Value.string n2); refine (A2 _ ?_).mono ?_; assumption; rintro e w' ⟨rfl, hz'⟩)
      | (go_at_call_of 10 (Value.int .i64 7); refine (A3 _ ?_).mono ?_; assumption; rintro e w' ⟨rfl, hz'⟩)
      | (go_at_call_of 11 (Value.int .i64 op); refine (B0 _ ?_).mono ?_; assumption; rintro e w' ⟨rfl, hz'⟩)
      | (go_at_call_of 11 (Value.int .i64 K); go_at_call_of 11 (Value.string nm); refine (B1 _ ?_).mono ?_; assumption; rintro e w' ⟨rfl, hz'⟩)
      | (go_at_call_of 11 (Value.int .i64 K); go_at_call_of 11 (Value.string n2); refine (B2 _ ?_).mono ?_; assumption; rintro e w' ⟨rfl, hz'⟩)
      | (go_at_call_of 11 (Value.int .i64 7); refine (B3 _ ?_).mono ?_; assumption; rintro e w' ⟨rfl, hz'⟩)
      | fail)
  go_wp2_with fail
  go_ret
  exact ⟨rfl, hz'.1⟩
end Go.Proofs.YtgidnkodgdoijaaDoor
