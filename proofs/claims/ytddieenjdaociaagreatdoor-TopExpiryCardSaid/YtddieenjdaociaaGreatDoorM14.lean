/- Tables of records; what New makes. locks.New, store.New, model.Check. locks.Acquire. locks.Remove, Release of a key behind which no slot is used. -/
import Derived.Test.YtddieenjdaociaaGreatDoorM13
import Derived.Deep.OwnRows
import Derived.RegionTactic
import Derived.BigRegion
namespace Go.Proofs.YtddieenjdaociaaGreatDoor
open Go Go.RowKit Go.Shelf
set_option linter.unusedVariables false

def rcC (R : List Rc) : List Value := R.flatMap Rc.cells
def rcT (R : List Rc) : Array Value := (rcC R).toArray
theorem rcC_cons (a : Rc) (r : List Rc) : rcC (a :: r) = .int .i64 a.st :: .int .i64 a.ow :: .string a.nm :: .int .i64 a.dl :: rcC r := by simp [rcC, Rc.cells]
theorem rcC_len (R : List Rc) : (rcC R).length = R.length * 4 := by
  induction R with
  | nil => rfl
  | cons a r ih => rw [rcC_cons]; simp only [List.length_cons, ih]; omega
theorem rcC_at (R : List Rc) : ∀ (i : Nat) (r : Rc), R[i]? = some r → (rcC R)[i * 4]? = some (.int .i64 r.st) ∧ (rcC R)[i * 4 + 1]? = some (.int .i64 r.ow) ∧ (rcC R)[i * 4 + 2]? = some (.string r.nm) ∧ (rcC R)[i * 4 + 3]? = some (.int .i64 r.dl) := by
  induction R with
  | nil => intro i s h; simp at h
  | cons a r ih =>
    intro i s h
    rw [rcC_cons]
    cases i with
    | zero => simp at h; subst h; exact ⟨rfl, rfl, rfl, rfl⟩
    | succ i =>
      simp at h
      obtain ⟨h1, h2, h3, h4⟩ := ih i s h
      rw [show (i + 1) * 4 = i * 4 + 1 + 1 + 1 + 1 by omega]
      exact ⟨h1, h2, h3, h4⟩
theorem rcC_set (R : List Rc) : ∀ (i : Nat) (s : Rc), ((((rcC R).set (i * 4) (.int .i64 s.st)).set (i * 4 + 1) (.int .i64 s.ow)).set (i * 4 + 2) (.string s.nm)).set (i * 4 + 3) (.int .i64 s.dl) = rcC (R.set i s) := by
  induction R with
  | nil => intro i s; simp [rcC]
  | cons a r ih =>
    intro i s
    rw [rcC_cons]
    cases i with
    | zero => simp [rcC_cons]
    | succ i =>
      rw [show (i + 1) * 4 = i * 4 + 1 + 1 + 1 + 1 by omega]
      simp only [List.set_cons_succ, show ∀ a b : Nat, a + 1 + 1 + 1 + 1 + b = (a + b) + 1 + 1 + 1 + 1 by omega, ih i s, rcC_cons]
/-- Block g is a table of records. -/
def Recs (w : World) (g : Nat) (R : List Rc) : Prop := Bk w g 38 (rcT R)
section
variable {w w' : World} {g : Nat} {R : List Rc}
theorem Recs.lt (h : Recs w g R) : g < w.heap.size := Bk.lt h
theorem Recs.cell (h : Recs w g R) {i : Nat} {s : Rc} (hi : R[i]? = some s) : w.cell? ⟨g, i * 4, none⟩ = some (.int .i64 s.st) ∧ w.cell? ⟨g, i * 4 + 1, none⟩ = some (.int .i64 s.ow) ∧ w.cell? ⟨g, i * 4 + 2, none⟩ = some (.string s.nm) ∧ w.cell? ⟨g, i * 4 + 3, none⟩ = some (.int .i64 s.dl) := by
  obtain ⟨h1, h2, h3, h4⟩ := rcC_at R i s hi
  refine ⟨?_, ?_, ?_, ?_⟩ <;> rw [Bk.cell h] <;> simp only [rcT, List.getElem?_toArray] <;> assumption
theorem Recs.frozen (h : Recs w g R) (i : Nat) : w.frozen? ⟨g, i, none⟩ = false := Bk.frozen h i
theorem Recs.set (h : Recs w g R) (i : Nat) (s : Rc) : Recs ((((w.setCell ⟨g, i * 4, none⟩ (.int .i64 s.st)).setCell ⟨g, i * 4 + 1, none⟩ (.int .i64 s.ow)).setCell ⟨g, i * 4 + 2, none⟩ (.string s.nm)).setCell ⟨g, i * 4 + 3, none⟩ (.int .i64 s.dl)) g (R.set i s) := by
  have h2 := Bk.set_ (Bk.set_ (Bk.set_ (Bk.set_ h (i * 4) (.int .i64 s.st)) (i * 4 + 1) (.int .i64 s.ow)) (i * 4 + 2) (.string s.nm)) (i * 4 + 3) (.int .i64 s.dl)
  unfold Recs
  rw [show rcT (R.set i s) = ((((rcT R).setIfInBounds (i * 4) (.int .i64 s.st)).setIfInBounds (i * 4 + 1) (.int .i64 s.ow)).setIfInBounds (i * 4 + 2) (.string s.nm)).setIfInBounds (i * 4 + 3) (.int .i64 s.dl) by
    unfold rcT
    rw [← rcC_set R i s]
    simp]
  exact h2
theorem Recs.below {B : Nat} (h : Recs w g R) (hb : Below B w w') (hg : g < B) : Recs w' g R := Bk.below h hb hg
theorem Recs.far (h : Recs w g R) {p : Addr} (hp : g ≠ p.block) (u : Value) : Recs (w.setCell p u) g R := Bk.far h hp u
theorem Recs.drew (h : Recs w g R) : Recs w.drew g R := h
theorem Recs.alloc (h : Recs w g R) (o : Obj) : Recs (w.alloc o) g R := Bk.alloc h o
end
/-- Block g is a table of owners. -/
def Ownr (w : World) (g : Nat) (O : List Int) : Prop := Bk w g 3 (ints O).toArray
theorem Ownr.cell {w : World} {g : Nat} {O : List Int} (h : Ownr w g O) {i : Nat} {c : Int} (hi : O[i]? = some c) : w.cell? ⟨g, i, none⟩ = some (.int .i64 c) := by
  rw [Bk.cell h]; simp [ints, hi]
theorem Ownr.set {w : World} {g : Nat} {O : List Int} (h : Ownr w g O) (i : Nat) (c : Int) : Ownr (w.setCell ⟨g, i, none⟩ (.int .i64 c)) g (O.set i c) := by
  have h2 := Bk.set_ h i (.int .i64 c)
  unfold Ownr
  rw [show (ints (O.set i c)).toArray = (ints O).toArray.setIfInBounds i (.int .i64 c) by simp [ints, List.map_set]]
  exact h2
theorem made_slots (n : Nat) : madeCells #[.bool false, .string ⟨#[]⟩] (n * 2) = slA (List.replicate n Slt.none) := by
  apply Array.ext
  · rw [size_madeCells]; simp [slA, slC_len]
  · intro i h1 h2
    rw [size_madeCells] at h1
    obtain ⟨q, r, hr, rfl⟩ : ∃ q r, r < 2 ∧ i = q * 2 + r := ⟨i / 2, i % 2, Nat.mod_lt _ (by omega), by omega⟩
    have hq : (List.replicate n Slt.none)[q]? = some Slt.none := by rw [List.getElem?_replicate, if_pos (by omega)]
    obtain ⟨e1, e2⟩ := slC_at _ q _ hq
    have hl : (madeCells #[.bool false, .string ⟨#[]⟩] (n * 2))[q * 2 + r] = #[Value.bool false, .string ⟨#[]⟩][(q * 2 + r) % 2]! := by simp [madeCells]
    rw [hl]
    match r, hr with
    | 0, _ =>
      have : (q * 2 + 0) % 2 = 0 := by omega
      rw [this]
      have : (slC (List.replicate n Slt.none))[q * 2]? = some ((slA (List.replicate n Slt.none))[q * 2 + 0]) := by
        rw [← List.getElem?_toArray]; exact Array.getElem?_eq_getElem h2
      rw [e1] at this
      injection this with this
    | 1, _ =>
      have : (q * 2 + 1) % 2 = 1 := by omega
      rw [this]
      have : (slC (List.replicate n Slt.none))[q * 2 + 1]? = some ((slA (List.replicate n Slt.none))[q * 2 + 1]) := by
        rw [← List.getElem?_toArray]; exact Array.getElem?_eq_getElem h2
      rw [e2] at this
      injection this with this
theorem made_recs (n : Nat) : madeCells #[.int .i64 0, .int .i64 0, .string ⟨#[]⟩, .int .i64 0] (n * 4) = rcT (List.replicate n Rc.none) := by
  apply Array.ext
  · rw [size_madeCells]; simp [rcT, rcC_len]
  · intro i h1 h2
    rw [size_madeCells] at h1
    obtain ⟨q, r, hr, rfl⟩ : ∃ q r, r < 4 ∧ i = q * 4 + r := ⟨i / 4, i % 4, Nat.mod_lt _ (by omega), by omega⟩
    have hq : (List.replicate n Rc.none)[q]? = some Rc.none := by rw [List.getElem?_replicate, if_pos (by omega)]
    obtain ⟨e1, e2, e3, e4⟩ := rcC_at _ q _ hq
    have hl : (madeCells #[.int .i64 0, .int .i64 0, .string ⟨#[]⟩, .int .i64 0] (n * 4))[q * 4 + r] = #[Value.int .i64 0, .int .i64 0, .string ⟨#[]⟩, .int .i64 0][(q * 4 + r) % 4]! := by simp [madeCells]
    have hx : (rcC (List.replicate n Rc.none))[q * 4 + r]? = some ((rcT (List.replicate n Rc.none))[q * 4 + r]) := by
      rw [← List.getElem?_toArray]; exact Array.getElem?_eq_getElem h2
    rw [hl, show (q * 4 + r) % 4 = r by omega]
    match r, hr with
    | 0, _ => have hx := e1.symm.trans hx; injection hx with hx
    | 1, _ => have hx := e2.symm.trans hx; injection hx with hx
    | 2, _ => have hx := e3.symm.trans hx; injection hx with hx
    | 3, _ => have hx := e4.symm.trans hx; injection hx with hx
theorem made_own (n : Nat) : madeCells #[.int .i64 0] n = (ints (List.replicate n 0)).toArray := by
  apply Array.ext
  · rw [size_madeCells]; simp [ints]
  · intro i h1 h2
    simp [madeCells, ints, Nat.mod_one]
theorem info_slt : (Tryz.prog.info? 163).map (fun i => (i.zero, i.size, i.bytes)) = some (some (.agg #[.bool false, .string ⟨#[]⟩]), 2, 24) := by kernel_rfl
theorem info_rcd : (Tryz.prog.info? 38).map (fun i => (i.zero, i.size, i.bytes)) = some (some (.agg #[.int .i64 0, .int .i64 0, .string ⟨#[]⟩, .int .i64 0]), 4, 40) := by kernel_rfl
def freeS (n : Nat) : List Slt := List.replicate n Slt.none
def freeR (n : Nat) : List Rc := List.replicate n Rc.none
def freeO (n : Nat) : List Int := List.replicate n 0
theorem mk_slots (n : Nat) (hn : n ≤ 100000) (w : World) : (Instr.makeSlice 113 (.int .i64 (n : Int)) (.int .i64 (n : Int))).run Tryz.prog w = .ok (.slice (some ⟨w.heap.size, 0, none⟩) n n) (w.alloc (.cells (slA (freeS n)) 163)) := by
  obtain ⟨i0, hi, hz0, hz1, hz2⟩ := info_parts info_slt
  have := run_make (P := Tryz.prog) w 113 163 i0 _ Tryz.underlying113 hi hz0 .i64 .i64 n n (by omega) (Int.le_refl _) (by rw [hz2]; omega) (by omega)
  unfold freeS
  rw [this, hz1, Int.toNat_natCast, ← made_slots n]
  rfl
theorem mk_recs (n : Nat) (hn : n ≤ 100000) (w : World) : (Instr.makeSlice 78 (.int .i64 (n : Int)) (.int .i64 (n : Int))).run Tryz.prog w = .ok (.slice (some ⟨w.heap.size, 0, none⟩) n n) (w.alloc (.cells (rcT (freeR n)) 38)) := by
  obtain ⟨i0, hi, hz0, hz1, hz2⟩ := info_parts info_rcd
  have := run_make (P := Tryz.prog) w 78 38 i0 _ Tryz.underlying78 hi hz0 .i64 .i64 n n (by omega) (Int.le_refl _) (by rw [hz2]; omega) (by omega)
  unfold freeR
  rw [this, hz1, Int.toNat_natCast, ← made_recs n]
  rfl
theorem mk_own (n : Nat) (hn : n ≤ 100000) (w : World) : (Instr.makeSlice 28 (.int .i64 (n : Int)) (.int .i64 (n : Int))).run Tryz.prog w = .ok (.slice (some ⟨w.heap.size, 0, none⟩) n n) (w.alloc (.cells (ints (freeO n)).toArray 3)) := by
  unfold freeO
  rw [← made_own n]
  exact run_make_row' (P := Tryz.prog) 28 3 (.int .i64 0) 8 Tryz.underlying28 info_int rfl .i64 .i64 n (by omega) (by omega) w
end Go.Proofs.YtddieenjdaociaaGreatDoor
namespace Go.Proofs.YtddieenjdaociaaGreatDoor
open Go Go.RowKit Go.Shelf
set_option linter.unusedVariables false

theorem power_2048 (w : World) : Calls Tryz.prog 47 #[.int .i64 2048, .int .i64 2] w fun e w' => e = .returned (.bool true) ∧ w' = w := by
  go_enter Tryz.func47, Tryz.ntmps47
  go_wp2_with fail
  go_ret
  exact ⟨rfl, rfl⟩
/-- A table of locks: the blocks, the slots, the owners, how many are used. -/
structure LkAt (w : World) (g ls lo n : Nat) (S : List Slt) (O : List Int) (u : Nat) : Prop where
  k : Bk w g 115 #[.slice (some ⟨ls, 0, none⟩) n n, .slice (some ⟨lo, 0, none⟩) n n, .int .i64 (u : Int)]
  s : Slots w ls S
  o : Ownr w lo O
  ns : S.length = n
  no : O.length = n
  d1 : g ≠ ls
  d2 : g ≠ lo
  d3 : ls ≠ lo
structure StAt (w : World) (g ss sr n : Nat) (S : List Slt) (R : List Rc) (u : Nat) : Prop where
  k : Bk w g 117 #[.slice (some ⟨ss, 0, none⟩) n n, .slice (some ⟨sr, 0, none⟩) n n, .int .i64 (u : Int)]
  s : Slots w ss S
  r : Recs w sr R
  ns : S.length = n
  nr : R.length = n
  d1 : g ≠ ss
  d2 : g ≠ sr
  d3 : ss ≠ sr
theorem three_bk (w : World) (c1 c2 c3 : Array Value) (t1 t2 t3 : TypeId) :
    Bk (((w.alloc (.cells c1 t1)).alloc (.cells c2 t2)).alloc (.cells c3 t3)).drew w.heap.size t1 c1 ∧ Bk (((w.alloc (.cells c1 t1)).alloc (.cells c2 t2)).alloc (.cells c3 t3)).drew (w.heap.size + 1) t2 c2 ∧
    Bk (((w.alloc (.cells c1 t1)).alloc (.cells c2 t2)).alloc (.cells c3 t3)).drew (w.heap.size + 2) t3 c3 ∧ Below w.heap.size w (((w.alloc (.cells c1 t1)).alloc (.cells c2 t2)).alloc (.cells c3 t3)).drew := by
  refine ⟨((Bk.new w t1 c1).alloc _).alloc _, (bk_second w _ t2 c2).alloc _, ?_, ((below_two w _ _).alloc (by simp <;> omega) _).drew⟩
  have := Bk.new ((w.alloc (.cells c1 t1)).alloc (.cells c2 t2)) t3 c3
  rw [World.size_alloc, World.size_alloc] at this
  exact this
set_option maxHeartbeats 2000000 in
theorem lnew_2048 (w : World) : Calls Tryz.prog 22 #[.int .i64 2048] w fun e w' => ∃ g ls lo, e = .returned (.tuple #[.pointer (some ⟨g, 0, none⟩), .int .i64 0]) ∧
    LkAt w' g ls lo 2048 (freeS 2048) (freeO 2048) 0 ∧ w.heap.size ≤ g ∧ w.heap.size ≤ ls ∧ w.heap.size ≤ lo ∧ Below w.heap.size w w' := by
  have hms : ∀ w : World, (Instr.makeSlice 113 (.int .i64 2048) (.int .i64 2048)).run Tryz.prog w = .ok (.slice (some ⟨w.heap.size, 0, none⟩) 2048 2048) (w.alloc (.cells (slA (freeS 2048)) 163)) := mk_slots 2048 (by omega)
  have hmo : ∀ w : World, (Instr.makeSlice 28 (.int .i64 2048) (.int .i64 2048)).run Tryz.prog w = .ok (.slice (some ⟨w.heap.size, 0, none⟩) 2048 2048) (w.alloc (.cells (ints (freeO 2048)).toArray 3)) := mk_own 2048 (by omega)
  go_enter Tryz.func22, Tryz.ntmps22
  go_wp2_with fail
  refine (power_2048 _).mono ?_
  rintro e w1 ⟨rfl, rfl⟩
  go_wp2_with fail
  go_region
  · obtain ⟨h1, h2, h3, h4⟩ := three_bk w1 (slA (freeS 2048)) (ints (freeO 2048)).toArray #[.slice (some ⟨w1.heap.size, 0, none⟩) 2048 2048, .slice (some ⟨w1.heap.size + 1, 0, none⟩) 2048 2048, .int .i64 0] 163 3 115
    have H := Lib.hid (LkAt.mk (u := 0) h3 h1 h2 (List.length_replicate ..) (List.length_replicate ..) (by omega) (by omega) (by omega))
    have H4 := Lib.hid h4
    clear h1 h2 h3 h4
    go_wp2_with fail
    go_ret2
    exact ⟨_, _, _, rfl, H.out, by omega, by omega, by omega, H4.out⟩
  · obtain ⟨h1, h2, h3, h4⟩ := three_bk w1 (ints (freeO 2048)).toArray (slA (freeS 2048)) #[.slice (some ⟨w1.heap.size + 1, 0, none⟩) 2048 2048, .slice (some ⟨w1.heap.size, 0, none⟩) 2048 2048, .int .i64 0] 3 163 115
    have H := Lib.hid (LkAt.mk (u := 0) h3 h2 h1 (List.length_replicate ..) (List.length_replicate ..) (by omega) (by omega) (by omega))
    have H4 := Lib.hid h4
    clear h1 h2 h3 h4
    go_wp2_with fail
    go_ret2
    exact ⟨_, _, _, rfl, H.out, by omega, by omega, by omega, H4.out⟩
set_option maxHeartbeats 2000000 in
theorem snew_16 (w : World) : Calls Tryz.prog 23 #[.int .i64 16] w fun e w' => ∃ g ss sr, e = .returned (.tuple #[.pointer (some ⟨g, 0, none⟩), .int .i64 0]) ∧
    StAt w' g ss sr 16 (freeS 16) (freeR 16) 0 ∧ w.heap.size ≤ g ∧ w.heap.size ≤ ss ∧ w.heap.size ≤ sr ∧ Below w.heap.size w w' := by
  have hms : ∀ w : World, (Instr.makeSlice 113 (.int .i64 16) (.int .i64 16)).run Tryz.prog w = .ok (.slice (some ⟨w.heap.size, 0, none⟩) 16 16) (w.alloc (.cells (slA (freeS 16)) 163)) := mk_slots 16 (by omega)
  have hmo : ∀ w : World, (Instr.makeSlice 78 (.int .i64 16) (.int .i64 16)).run Tryz.prog w = .ok (.slice (some ⟨w.heap.size, 0, none⟩) 16 16) (w.alloc (.cells (rcT (freeR 16)) 38)) := mk_recs 16 (by omega)
  go_enter Tryz.func23, Tryz.ntmps23
  go_wp2_with fail
  go_region
  · obtain ⟨h1, h2, h3, h4⟩ := three_bk w (slA (freeS 16)) (rcT (freeR 16)) #[.slice (some ⟨w.heap.size, 0, none⟩) 16 16, .slice (some ⟨w.heap.size + 1, 0, none⟩) 16 16, .int .i64 0] 163 38 117
    have H := Lib.hid (StAt.mk (u := 0) h3 h1 h2 (List.length_replicate ..) (List.length_replicate ..) (by omega) (by omega) (by omega))
    have H4 := Lib.hid h4
    clear h1 h2 h3 h4
    go_wp2_with fail
    go_ret2
    exact ⟨_, _, _, rfl, H.out, by omega, by omega, by omega, H4.out⟩
  · obtain ⟨h1, h2, h3, h4⟩ := three_bk w (rcT (freeR 16)) (slA (freeS 16)) #[.slice (some ⟨w.heap.size + 1, 0, none⟩) 16 16, .slice (some ⟨w.heap.size, 0, none⟩) 16 16, .int .i64 0] 38 163 117
    have H := Lib.hid (StAt.mk (u := 0) h3 h2 h1 (List.length_replicate ..) (List.length_replicate ..) (by omega) (by omega) (by omega))
    have H4 := Lib.hid h4
    clear h1 h2 h3 h4
    go_wp2_with fail
    go_ret2
    exact ⟨_, _, _, rfl, H.out, by omega, by omega, by omega, H4.out⟩
theorem mcheck_ok (a b : Int) (h1 : 1 ≤ a) (h2 : a ≤ 64) (h3 : 1 ≤ b) (h4 : b ≤ 64) (w : World) : Calls Tryz.prog 21 #[.agg #[.int .i64 a, .int .i64 b]] w fun e w' => e = .returned (.int .i64 0) ∧ Below w.heap.size w w' := by
  have hb := Bk.new w 32 #[.int .i64 a, .int .i64 b]
  have x0 : (w.alloc (.cells #[.int .i64 a, .int .i64 b] 32)).cell? ⟨w.heap.size, 0, none⟩ = some (.int .i64 a) := hb.cell 0
  have x1 : (w.alloc (.cells #[.int .i64 a, .int .i64 b] 32)).cell? ⟨w.heap.size, 1, none⟩ = some (.int .i64 b) := hb.cell 1
  clear hb
  go_enter Tryz.func21, Tryz.ntmps21
  go_wp2_with fail
  go_ret
  exact ⟨rfl, (Below.refl _ _).alloc (Nat.le_refl _) _⟩
end Go.Proofs.YtddieenjdaociaaGreatDoor
namespace Go.Proofs.YtddieenjdaociaaGreatDoor
open Go Go.RowKit Go.Shelf
set_option linter.unusedVariables false

theorem client_ok (c : Int) (h0 : 0 ≤ c) (h1 : c < 64) (w : World) : Calls Tryz.prog 85 #[.int .i64 c] w fun e w' => e = .returned (.bool true) ∧ w' = w := by
  go_enter Tryz.func85, Tryz.ntmps85
  go_wp2_with fail
  go_ret
  exact ⟨rfl, rfl⟩
theorem LkAt.below {w w' : World} {B g ls lo n u : Nat} {S : List Slt} {O : List Int} (h : LkAt w g ls lo n S O u) (hb : Below B w w') (hB : w.heap.size ≤ B) : LkAt w' g ls lo n S O u :=
  ⟨h.k.below hb (by have := h.k.lt; omega), h.s.below hb (by have := h.s.lt; omega), Bk.below h.o hb (by have := Bk.lt h.o; omega), h.ns, h.no, h.d1, h.d2, h.d3⟩
theorem LkAt.drewN {w : World} {g ls lo n u : Nat} {S : List Slt} {O : List Int} (h : LkAt w g ls lo n S O u) (m : Nat) : LkAt (w.drewN m) g ls lo n S O u :=
  ⟨h.k, h.s, h.o, h.ns, h.no, h.d1, h.d2, h.d3⟩
theorem LkAt.drew {w : World} {g ls lo n u : Nat} {S : List Slt} {O : List Int} (h : LkAt w g ls lo n S O u) : LkAt w.drew g ls lo n S O u :=
  ⟨h.k, h.s, h.o, h.ns, h.no, h.d1, h.d2, h.d3⟩
theorem LkAt.used {w : World} {g ls lo n u : Nat} {S : List Slt} {O : List Int} (h : LkAt w g ls lo n S O u) (x : Int) (u' : Nat) (hx : x = (u' : Int)) : LkAt (w.setCell ⟨g, 2, none⟩ (.int .i64 x)) g ls lo n S O u' := by
  subst hx
  exact ⟨h.k.set_ 2 _, h.s.far (by show ls ≠ g; exact h.d1.symm) _, Bk.far h.o (by show lo ≠ g; exact h.d2.symm) _, h.ns, h.no, h.d1, h.d2, h.d3⟩
theorem LkAt.slot {w : World} {g ls lo n u : Nat} {S : List Slt} {O : List Int} (h : LkAt w g ls lo n S O u) (i : Nat) (s : Slt) : LkAt ((w.setCell ⟨ls, i * 2, none⟩ (.bool s.u)).setCell ⟨ls, i * 2 + 1, none⟩ (.string s.k)) g ls lo n (S.set i s) O u :=
  ⟨(h.k.far (by show g ≠ ls; exact h.d1) _).far (by show g ≠ ls; exact h.d1) _, h.s.set i s, Bk.far (Bk.far h.o (by show lo ≠ ls; exact h.d3.symm) _) (by show lo ≠ ls; exact h.d3.symm) _, by rw [List.length_set]; exact h.ns, h.no, h.d1, h.d2, h.d3⟩
theorem LkAt.ownr {w : World} {g ls lo n u : Nat} {S : List Slt} {O : List Int} (h : LkAt w g ls lo n S O u) (i : Nat) (c : Int) : LkAt (w.setCell ⟨lo, i, none⟩ (.int .i64 c)) g ls lo n S (O.set i c) u :=
  ⟨h.k.far (by show g ≠ lo; exact h.d2) _, h.s.far (by show ls ≠ lo; exact h.d3) _, h.o.set i c, h.ns, by rw [List.length_set]; exact h.no, h.d1, h.d2, h.d3⟩
set_option maxRecDepth 100000 in
set_option maxHeartbeats 4000000 in
/-- Acquire: the key is not locked. -/
theorem acquire_new (g ls lo n u at_ : Nat) (S : List Slt) (O : List Int) (key : ByteArray) (c : Int) (w : World) (h : LkAt w g ls lo n S O u) (hn0 : 0 < n) (hn : n ≤ 100000) (hk : key.size ≤ 1000000)
    (z : Nat) (hz : z < n) (hfree : ∀ s, S[z]? = some s → s.u = false) (hf : findS S key = (at_, false)) (hat : at_ < n) (hu : u + 2 ≤ n) (c0 : 0 ≤ c) (c1 : c < 64) :
    Calls Tryz.prog 51 #[.pointer (some ⟨g, 0, none⟩), .string key, .int .i64 c] w fun e w' => e = .returned (.int .i64 0) ∧ LkAt w' g ls lo n (S.set at_ ⟨true, key⟩) (O.set at_ c) (u + 1) ∧ Oth [g, ls, lo] w w' := by
  have HF := Lib.hid (fun w hS => find_any ls n n S key w hS h.ns hn0 hn hk z hz hfree)
  rw [hf] at HF
  have HS := Lib.hid h
  have k0 : w.cell? ⟨g, 0, none⟩ = some (.slice (some ⟨ls, 0, none⟩) n n) := h.k.cell 0
  clear hfree hf
  go_enter Tryz.func51, Tryz.ntmps51
  go_wp2_with fail
  refine (client_ok c c0 c1 _).mono ?_
  rintro e w1 ⟨rfl, rfl⟩
  go_wp2_with fail
  refine (HF.out _ HS.out.s).mono ?_
  rintro e w2 ⟨rfl, hb2⟩
  have HS2 := Lib.hid (HS.out.below hb2 (Nat.le_refl _))
  have HO2 := Lib.hid (Oth.below (S := [g, ls, lo]) hb2 (Nat.le_refl _))
  clear hb2 k0 h
  have k0 : w2.cell? ⟨g, 0, none⟩ = some (.slice (some ⟨ls, 0, none⟩) n n) := HS2.out.k.cell 0
  have k1 : w2.cell? ⟨g, 1, none⟩ = some (.slice (some ⟨lo, 0, none⟩) n n) := HS2.out.k.cell 1
  have k2 : w2.cell? ⟨g, 2, none⟩ = some (.int .i64 (u : Int)) := HS2.out.k.cell 2
  have hlt : ¬ ((n : Int) - (u : Int) < 2) := by omega
  have hltb : decide ((n : Int) - (u : Int) < 2) = false := by simp; omega
  go_wp2_with fail
  go_quiet (fail)
  obtain ⟨s, hs⟩ : ∃ s, S[at_]? = some s := ⟨_, List.getElem?_eq_getElem (by rw [HS.out.ns]; exact hat)⟩
  obtain ⟨o, ho⟩ : ∃ o, O[at_]? = some o := ⟨_, List.getElem?_eq_getElem (by rw [HS.out.no]; exact hat)⟩
  obtain ⟨s0, s1⟩ := HS2.out.s.cell hs
  have o0 := HS2.out.o.cell ho
  have f0 : w2.frozen? ⟨ls, at_ * 2, none⟩ = false := HS2.out.s.frozen _
  have f1 : w2.frozen? ⟨ls, at_ * 2 + 1, none⟩ = false := HS2.out.s.frozen _
  have f2 : w2.frozen? ⟨lo, at_, none⟩ = false := Bk.frozen HS2.out.o _
  have f3 : w2.frozen? ⟨g, 2, none⟩ = false := HS2.out.k.frozen _
  obtain ⟨d1, d2, d3⟩ : g ≠ ls ∧ g ≠ lo ∧ ls ≠ lo := ⟨HS2.out.d1, HS2.out.d2, HS2.out.d3⟩
  clear hs ho
  go_wp2_with fail
  go_region
  have HS3 := Lib.hid (((HS2.out.drewN (nq + 1)).slot at_ ⟨true, key⟩).ownr at_ c)
  have HO3 := Lib.hid ((((HO2.out.drewN (nq + 1)).setCell (p := ⟨ls, at_ * 2, none⟩) (.inl (by simp)) (.bool true)).setCell (p := ⟨ls, at_ * 2 + 1, none⟩) (.inl (by simp)) (.string key)).setCell (p := ⟨lo, at_, none⟩) (.inl (by simp)) (.int .i64 c))
  clear s0 s1 o0 f0 f1 f2 f3 k0 k1 k2
  generalize hw3 : ((((w2.drewN (nq + 1)).setCell ⟨ls, at_ * 2, none⟩ (.bool true)).setCell ⟨ls, at_ * 2 + 1, none⟩ (.string key)).setCell ⟨lo, at_, none⟩ (.int .i64 c)) = w3 at *
  clear hw3
  have k2 : w3.cell? ⟨g, 2, none⟩ = some (.int .i64 (u : Int)) := HS3.out.k.cell 2
  have f3 : w3.frozen? ⟨g, 2, none⟩ = false := HS3.out.k.frozen _
  go_wp2
  go_ret
  exact ⟨rfl, HS3.out.used _ _ (by omega), HO3.out.setCell (p := ⟨g, 2, none⟩) (.inl (by simp)) _⟩
end Go.Proofs.YtddieenjdaociaaGreatDoor
namespace Go.Proofs.YtddieenjdaociaaGreatDoor
open Go Go.RowKit Go.Shelf
set_option linter.unusedVariables false

set_option maxRecDepth 100000 in
set_option maxHeartbeats 4000000 in
theorem remove_last (ls n i : Nat) (S : List Slt) (f : Value) (w : World) (h : Slots w ls S) (hl : S.length = n) (hn : n ≤ 100000) (hi : i < n) (hn2 : 2 ≤ n) (hfree : ∀ s, S[(i + 1) % n]? = some s → s.u = false) :
    Calls Tryz.prog 90 #[.slice (some ⟨ls, 0, none⟩) n n, .int .i64 (i : Int), f] w fun e w' => e = .returned (.tuple #[]) ∧ Slots w' ls (S.set i Slt.none) ∧ Oth [ls] w w' := by
  obtain ⟨s, hs⟩ : ∃ s, S[i]? = some s := ⟨_, List.getElem?_eq_getElem (by rw [hl]; exact hi)⟩
  obtain ⟨s0, s1⟩ := h.cell hs
  have f0 : w.frozen? ⟨ls, i * 2, none⟩ = false := h.frozen _
  have f1 : w.frozen? ⟨ls, i * 2 + 1, none⟩ = false := h.frozen _
  have HS := Lib.hid h
  have hml : (i + 1) % n < n := Nat.mod_lt _ (by omega)
  have hmi : (i + 1) % n ≠ i := by
    by_cases e : i + 1 = n
    · rw [e, Nat.mod_self]; omega
    · rw [Nat.mod_eq_of_lt (by omega)]; omega
  have hmm : (((i : Int) + 1) % (n : Int)) = (((i + 1) % n : Nat) : Int) := by rw [Int.natCast_emod]; rfl
  have HS2 := Lib.hid (show Slots ((w.setCell ⟨ls, i * 2, none⟩ (.bool false)).setCell ⟨ls, i * 2 + 1, none⟩ (.string ⟨#[]⟩)) ls (S.set i Slt.none) from HS.out.set i Slt.none)
  have HO2 := Lib.hid (((Oth.refl [ls] w).setCell (p := ⟨ls, i * 2, none⟩) (.inl (by simp)) (.bool false)).setCell (p := ⟨ls, i * 2 + 1, none⟩) (.inl (by simp)) (.string ⟨#[]⟩))
  obtain ⟨t, ht⟩ : ∃ t, (S.set i Slt.none)[(i + 1) % n]? = some t := ⟨_, List.getElem?_eq_getElem (by rw [List.length_set, hl]; exact hml)⟩
  have htu : t.u = false := by
    rw [List.getElem?_set_ne hmi.symm] at ht
    exact hfree t ht
  obtain ⟨t0, t1⟩ := HS2.out.cell ht
  rw [htu] at t0
  generalize (i + 1) % n = j at *
  have HMM := Lib.hid hmm
  clear hs ht htu t1 hfree h hmm hmi
  go_enter Tryz.func90, Tryz.ntmps90
  go_wp2_with fail
  rw [HMM.out]
  generalize ((w.setCell ⟨ls, i * 2, none⟩ (.bool false)).setCell ⟨ls, i * 2 + 1, none⟩ (.string ⟨#[]⟩)) = w2 at *
  clear s0 s1 f0 f1
  refine wp_loop_rounds 1 ?_
  rw [rounds_succ]
  go_wp2_with fail
  go_end0
  exact ⟨rfl, HS2.out, HO2.out⟩
theorem LkAt.slots {w w' : World} {g ls lo n u : Nat} {S S' : List Slt} {O : List Int} (h : LkAt w g ls lo n S O u) (ho : Oth [ls] w w') (hs : Slots w' ls S') (hl : S'.length = n) : LkAt w' g ls lo n S' O u :=
  ⟨h.k.oth ho (by simp; exact h.d1), hs, Bk.oth h.o ho (by simp; exact h.d3.symm), hl, h.no, h.d1, h.d2, h.d3⟩
set_option maxRecDepth 100000 in
set_option maxHeartbeats 4000000 in
theorem release_last (g ls lo n u at_ : Nat) (S : List Slt) (O : List Int) (key : ByteArray) (c : Int) (w : World) (h : LkAt w g ls lo n S O (u + 1)) (hn2 : 2 ≤ n) (hn : n ≤ 100000) (hk : key.size ≤ 1000000)
    (hf : findS S key = (at_, true)) (hat : at_ < n) (hoc : O[at_]? = some c) (hfree : ∀ s, S[(at_ + 1) % n]? = some s → s.u = false) (hu : u + 1 ≤ n) (c0 : 0 ≤ c) (c1 : c < 64) :
    Calls Tryz.prog 57 #[.pointer (some ⟨g, 0, none⟩), .string key, .int .i64 c] w fun e w' => e = .returned (.int .i64 0) ∧ LkAt w' g ls lo n (S.set at_ Slt.none) O u ∧ Oth [g, ls, lo] w w' := by
  have HF := Lib.hid (fun w hS => find_any ls n n S key w hS h.ns (by omega) hn hk ((at_ + 1) % n) (Nat.mod_lt _ (by omega)) hfree)
  rw [hf] at HF
  have HRM := Lib.hid (fun w f hS => remove_last ls n at_ S f w hS h.ns hn hat hn2 hfree)
  have HOC := Lib.hid hoc
  have HS := Lib.hid (show LkAt (w.alloc (.cells #[.pointer (some ⟨g, 0, none⟩)] 82)) g ls lo n S O (u + 1) from h.below (((Below.refl w.heap.size w)).alloc (Nat.le_refl _) _) (Nat.le_refl _))
  have HBX := Lib.hid (Bk.new w 82 #[.pointer (some ⟨g, 0, none⟩)])
  have HO1 := Lib.hid ((Oth.refl [g, ls, lo] w).alloc (.cells #[.pointer (some ⟨g, 0, none⟩)] 82))
  have hgw : g < w.heap.size := h.k.lt
  have hlw : ls < w.heap.size := h.s.lt
  have b0 : (w.alloc (.cells #[.pointer (some ⟨g, 0, none⟩)] 82)).cell? ⟨w.heap.size, 0, none⟩ = some (.pointer (some ⟨g, 0, none⟩)) := HBX.out.cell 0
  have k0 : (w.alloc (.cells #[.pointer (some ⟨g, 0, none⟩)] 82)).cell? ⟨g, 0, none⟩ = some (.slice (some ⟨ls, 0, none⟩) n n) := HS.out.k.cell 0
  clear hfree hf h hoc
  go_enter Tryz.func57, Tryz.ntmps57
  go_wp2_with fail
  refine (client_ok c c0 c1 _).mono ?_
  rintro e w1 ⟨rfl, rfl⟩
  go_wp2_with fail
  refine (HF.out _ HS.out.s).mono ?_
  rintro e w2 ⟨rfl, hb2⟩
  have HS2 := Lib.hid (HS.out.below hb2 (Nat.le_refl _))
  have HBX2 := Lib.hid (HBX.out.below hb2 HBX.out.lt)
  have HO2 := Lib.hid (HO1.out.trans (Oth.below (S := [g, ls, lo]) hb2 (Nat.le_refl _)))
  have hs2 : w.heap.size + 1 ≤ w2.heap.size := by have := hb2.size; simp at this; omega
  clear hb2 k0 b0
  have b0 : w2.cell? ⟨w.heap.size, 0, none⟩ = some (.pointer (some ⟨g, 0, none⟩)) := HBX2.out.cell 0
  have k0 : w2.cell? ⟨g, 0, none⟩ = some (.slice (some ⟨ls, 0, none⟩) n n) := HS2.out.k.cell 0
  have k1 : w2.cell? ⟨g, 1, none⟩ = some (.slice (some ⟨lo, 0, none⟩) n n) := HS2.out.k.cell 1
  have o0 := HS2.out.o.cell HOC.out
  have hcc : (c != c) = false := by simp
  go_wp2_with fail
  refine (HRM.out _ _ HS2.out.s).mono ?_
  rintro e w3 ⟨rfl, hs3, ho3⟩
  have HS3 := Lib.hid (HS2.out.slots ho3 hs3 (by rw [List.length_set]; exact HS2.out.ns))
  have HBX3 := Lib.hid (HBX2.out.oth ho3 (by simp; omega))
  have HO3 := Lib.hid (HO2.out.trans (ho3.more (by simp)))
  clear hs3 ho3 b0 k0 k1 o0
  have b0 : w3.cell? ⟨w.heap.size, 0, none⟩ = some (.pointer (some ⟨g, 0, none⟩)) := HBX3.out.cell 0
  have k2 : w3.cell? ⟨g, 2, none⟩ = some (.int .i64 ((u + 1 : Nat) : Int)) := HS3.out.k.cell 2
  have f3 : w3.frozen? ⟨g, 2, none⟩ = false := HS3.out.k.frozen _
  go_wp2
  go_ret
  exact ⟨rfl, HS3.out.used _ _ (by omega), HO3.out.setCell (p := ⟨g, 2, none⟩) (.inl (by simp)) _⟩
end Go.Proofs.YtddieenjdaociaaGreatDoor
