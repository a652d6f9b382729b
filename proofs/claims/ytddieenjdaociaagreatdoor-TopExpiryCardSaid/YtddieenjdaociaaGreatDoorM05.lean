/- table.Check and table.Copy at the tables without rows. The look-ups at the tables without rows. The properties of letters at the tables without rows. -/
import Derived.Test.YtddieenjdaociaaGreatDoorM04
import Derived.Shelf.Abstract
namespace Go.Proofs.YtddieenjdaociaaGreatDoor
open Go Go.RowKit Go.Shelf
set_option linter.unusedVariables false

def ruleCells : Array Value := #[.func (.func 38) #[] #[], .func (.func 39) #[] #[], .func (.func 40) #[] #[], .func (.func 41) #[] #[], .func (.func 42) #[] #[], .func (.func 43) #[] #[], .func (.func 44) #[] #[], .func (.func 45) #[] #[], .func (.func 46) #[] #[]]
theorem rule_at (k : Nat) (h : k < 9) : ∃ f, ruleCells[k]? = some (.func (.func f) #[] #[]) ∧ (∀ args w, (callFunc f args).run Tryz.prog w = .ok (.enter f args) w) ∧ ∀ w : World, Calls Tryz.prog f #[t0] w fun e w' => e = .returned (.bool true) ∧ Below w.heap.size w w' := by
  match k, h with
  | 0, _ => exact ⟨_, rfl, enters_of Tryz.func38 (by kernel_rfl) rfl, rows_t0⟩
  | 1, _ => exact ⟨_, rfl, enters_of Tryz.func39 (by kernel_rfl) rfl, shape_t0⟩
  | 2, _ => exact ⟨_, rfl, enters_of Tryz.func40 (by kernel_rfl) rfl, values_t0⟩
  | 3, _ => exact ⟨_, rfl, enters_of Tryz.func41 (by kernel_rfl) rfl, targets_t0⟩
  | 4, _ => exact ⟨_, rfl, enters_of Tryz.func42 (by kernel_rfl) rfl, mapped_t0⟩
  | 5, _ => exact ⟨_, rfl, enters_of Tryz.func43 (by kernel_rfl) rfl, decomposed_t0⟩
  | 6, _ => exact ⟨_, rfl, enters_of Tryz.func44 (by kernel_rfl) rfl, excluded_t0⟩
  | 7, _ => exact ⟨_, rfl, enters_of Tryz.func45 (by kernel_rfl) rfl, unique_t0⟩
  | 8, _ => exact ⟨_, rfl, enters_of Tryz.func46 (by kernel_rfl) rfl, prototyped_t0⟩
set_option maxHeartbeats 1000000 in
theorem check_t0 (w : World) : Calls Tryz.prog 19 #[t0] w fun e w' => e = .returned (.int .i64 0) ∧ Below w.heap.size w w' := by
  have hbx := Bk.new w 30 t0c
  have hb0 := (Below.refl w.heap.size w).alloc (Nat.le_refl _) (.cells t0c 30)
  go_enter Tryz.func19, Tryz.ntmps19
  go_wp2_with fail
  have hg := bk_second w (.cells t0c 30) 105 ruleCells
  have hb := below_two w (.cells t0c 30) (.cells ruleCells 105)
  have HX := Lib.hid (hbx.alloc (.cells ruleCells 105))
  have HG := Lib.hid hg
  have HB := Lib.hid hb
  clear hbx hb0 hg hb
  go_loopw [7] (fun i wr => ∃ k : Nat, k ≤ 9 ∧ i = .int .i64 k ∧ Below (w.heap.size + 2) ((w.alloc (.cells t0c 30)).alloc (.cells ruleCells 105)) wr) (fun i _ => 9 - (intOf i).toNat)
  case atStart => exact ⟨0, by omega, rfl, Below.refl _ _⟩
  case round =>
    obtain ⟨k, hk, rfl, hbr⟩ := hrel
    have HR := Lib.hid hbr
    clear hbr
    by_cases hlt : k < 9
    · obtain ⟨f, hf, he, hc⟩ := rule_at k hlt
      have HC := Lib.hid hc
      have h0 := ((HG.out.below HR.out (by omega)).cell k).trans hf
      obtain ⟨x0, x1, x2, x3, x4, x5, x6, x7, x8, x9, x10, x11⟩ := box_cells (HX.out.below HR.out (by omega))
      clear hf hc
      go_wp2_with fail
      refine (HC.out _).mono ?_
      rintro e w3 ⟨rfl, hb3⟩
      have HR3 := Lib.hid (HR.out.trans (hb3.mono (by have := HR.out.size; simp at this; omega)))
      clear hb3 h0 x0 x1 x2 x3 x4 x5 x6 x7 x8 x9 x10 x11
      go_wp2_with fail
      go_roundw
      case rel => exact ⟨k + 1, by omega, by go_num, HR3.out⟩
      case measure => simp [intOf]; omega
    · obtain rfl : k = 9 := by omega
      have HR := Lib.hid (HB.out.trans (HR.out.mono (by omega)))
      go_wp2_with fail
      go_ret
      exact ⟨rfl, HR.out⟩
def ptrs (g : Nat) : Array Value := #[.pointer (some ⟨g, 0, none⟩), .pointer (some ⟨g, 1, none⟩), .pointer (some ⟨g, 2, none⟩), .pointer (some ⟨g, 3, none⟩), .pointer (some ⟨g, 4, none⟩), .pointer (some ⟨g, 5, none⟩), .pointer (some ⟨g, 6, none⟩)]
theorem ptrs_at (g k : Nat) (h : k < 7) : (ptrs g)[k]? = some (.pointer (some ⟨g, k, none⟩)) := by
  match k, h with
  | 0, _ => rfl
  | 1, _ => rfl
  | 2, _ => rfl
  | 3, _ => rfl
  | 4, _ => rfl
  | 5, _ => rfl
  | 6, _ => rfl
def ptrs2 (g : Nat) : Array Value := #[.pointer (some ⟨g, 7, none⟩), .pointer (some ⟨g, 8, none⟩), .pointer (some ⟨g, 9, none⟩), .pointer (some ⟨g, 11, none⟩)]
theorem ptrs2_at (g k : Nat) (h : k < 4) : ∃ j : Nat, j < 12 ∧ (ptrs2 g)[k]? = some (.pointer (some ⟨g, j, none⟩)) := by
  match k, h with
  | 0, _ => exact ⟨7, by omega, rfl⟩
  | 1, _ => exact ⟨8, by omega, rfl⟩
  | 2, _ => exact ⟨9, by omega, rfl⟩
  | 3, _ => exact ⟨11, by omega, rfl⟩
theorem t0c_at (k : Nat) (h : k < 12) : t0c[k]? = some (.slice none 0 0) ∧ t0c.setIfInBounds k (.slice none 0 0) = t0c := by
  match k, h with
  | 0, _ => exact ⟨rfl, rfl⟩
  | 1, _ => exact ⟨rfl, rfl⟩
  | 2, _ => exact ⟨rfl, rfl⟩
  | 3, _ => exact ⟨rfl, rfl⟩
  | 4, _ => exact ⟨rfl, rfl⟩
  | 5, _ => exact ⟨rfl, rfl⟩
  | 6, _ => exact ⟨rfl, rfl⟩
  | 7, _ => exact ⟨rfl, rfl⟩
  | 8, _ => exact ⟨rfl, rfl⟩
  | 9, _ => exact ⟨rfl, rfl⟩
  | 10, _ => exact ⟨rfl, rfl⟩
  | 11, _ => exact ⟨rfl, rfl⟩
theorem t0_set {w : World} {g : Nat} (h : Bk w g 30 t0c) {k : Nat} (hk : k < 12) : Bk (w.setCell ⟨g, k, none⟩ (.slice none 0 0)) g 30 t0c := by
  have := h.set_ k (.slice none 0 0)
  rwa [(t0c_at k hk).2] at this
/-- While Copy runs: t, the result, and a row of pointers. -/
structure Cp (w : World) (g : Nat) (T : TypeId) (ps : Array Value) (wr : World) : Prop where
  t : Bk wr w.heap.size 30 t0c
  r : Bk wr (w.heap.size + 1) 30 t0c
  p : Bk wr g T ps
  g : w.heap.size + 2 ≤ g
  b : Below w.heap.size w wr
theorem Cp.set {w wr : World} {g : Nat} {T : TypeId} {ps : Array Value} (h : Cp w g T ps wr) {k : Nat} (hk : k < 12) : Cp w g T ps (wr.setCell ⟨w.heap.size, k, none⟩ (.slice none 0 0)) :=
  ⟨t0_set h.t hk, h.r.far (by show w.heap.size + 1 ≠ w.heap.size; omega) _, h.p.far (by have := h.g; show g ≠ w.heap.size; omega) _, h.g, h.b.setCell (p := ⟨w.heap.size, k, none⟩) (Nat.le_refl _) _⟩
theorem Cp.cell {w wr : World} {g : Nat} {T : TypeId} {ps : Array Value} (h : Cp w g T ps wr) {k : Nat} (hk : k < 12) : wr.cell? ⟨w.heap.size, k, none⟩ = some (.slice none 0 0) ∧ wr.frozen? ⟨w.heap.size, k, none⟩ = false :=
  ⟨(h.t.cell k).trans (t0c_at k hk).1, h.t.frozen k⟩
theorem Cp.setr {w wr : World} {g : Nat} {T : TypeId} {ps : Array Value} (h : Cp w g T ps wr) {k : Nat} (hk : k < 12) : Cp w g T ps (wr.setCell ⟨w.heap.size + 1, k, none⟩ (.slice none 0 0)) :=
  ⟨h.t.far (by show w.heap.size ≠ w.heap.size + 1; omega) _, t0_set h.r hk, h.p.far (by have := h.g; show g ≠ w.heap.size + 1; omega) _, h.g, h.b.setCell (p := ⟨w.heap.size + 1, k, none⟩) (Nat.le_succ _) _⟩
theorem Cp.all {w wr : World} {g : Nat} {T : TypeId} {ps : Array Value} (h : Cp w g T ps wr) : Cp w g T ps ((((((((((((wr.setCell ⟨w.heap.size + 1, 0, none⟩ (.slice none 0 0)).setCell ⟨w.heap.size + 1, 1, none⟩ (.slice none 0 0)).setCell ⟨w.heap.size + 1, 2, none⟩ (.slice none 0 0)).setCell ⟨w.heap.size + 1, 3, none⟩ (.slice none 0 0)).setCell
    ⟨w.heap.size + 1, 4, none⟩ (.slice none 0 0)).setCell ⟨w.heap.size + 1, 5, none⟩ (.slice none 0 0)).setCell ⟨w.heap.size + 1, 6, none⟩ (.slice none 0 0)).setCell ⟨w.heap.size + 1, 7, none⟩ (.slice none 0 0)).setCell ⟨w.heap.size + 1, 8, none⟩ (.slice none 0 0)).setCell ⟨w.heap.size + 1, 9, none⟩ (.slice none 0 0)).setCell
    ⟨w.heap.size + 1, 10, none⟩ (.slice none 0 0)).setCell ⟨w.heap.size + 1, 11, none⟩ (.slice none 0 0)) :=
  (((((((((((h.setr (k := 0) (by omega)).setr (k := 1) (by omega)).setr (k := 2) (by omega)).setr (k := 3) (by omega)).setr (k := 4) (by omega)).setr (k := 5) (by omega)).setr (k := 6) (by omega)).setr (k := 7) (by omega)).setr (k := 8) (by omega)).setr (k := 9) (by omega)).setr (k := 10) (by omega)).setr (k := 11) (by omega)
theorem cp_start (w : World) : Cp w (w.heap.size + 2) 107 (ptrs w.heap.size) (((w.alloc (.cells t0c 30)).alloc (.cells t0c 30)).alloc (.cells (ptrs w.heap.size) 107)) := by
  refine ⟨((Bk.new w _ _).alloc _).alloc _, (bk_second w _ _ _).alloc _, ?_, Nat.le_refl _, (below_two w _ _).alloc (by simp <;> omega) _⟩
  have := Bk.new ((w.alloc (.cells t0c 30)).alloc (.cells t0c 30)) 107 (ptrs w.heap.size)
  simpa using this
theorem Cp.next {w wr : World} {g : Nat} {T T' : TypeId} {ps ps' : Array Value} (h : Cp w g T ps wr) : Cp w wr.heap.size T' ps' (wr.alloc (.cells ps' T')) :=
  ⟨h.t.alloc _, h.r.alloc _, Bk.new _ _ _, by have := h.r.lt; omega, h.b.alloc (by have := h.b.size; omega) _⟩
theorem nil_nil (w : World) (b : Nat) (hb : w.heap.size ≤ b) : Below b w w := Below.refl _ _
set_option maxHeartbeats 1000000 in
theorem copy_t0 (w : World) : Calls Tryz.prog 20 #[t0] w fun e w' => e = .returned t0 ∧ Below w.heap.size w w' := by
  have hst := Lib.hid (cp_start w)
  go_enter Tryz.func20, Tryz.ntmps20
  go_wp2_with fail
  go_loopw [19] (fun i wr => ∃ k : Nat, k ≤ 7 ∧ i = .int .i64 k ∧ Cp w (w.heap.size + 2) 107 (ptrs w.heap.size) wr) (fun i _ => 7 - (intOf i).toNat)
  case atStart => exact ⟨0, by omega, rfl, hst.out⟩
  case round =>
    obtain ⟨k, hk, rfl, hcp⟩ := hrel
    have HR := Lib.hid hcp
    clear hcp
    by_cases hlt : k < 7
    · obtain ⟨hc, hf⟩ := HR.out.cell (k := k) (by omega)
      have h0 := (HR.out.p.cell k).trans (ptrs_at _ k hlt)
      have HS := Lib.hid (HR.out.set (k := k) (by omega))
      go_wp2_with fail
      go_roundw
      case rel => exact ⟨k + 1, by omega, by go_num, HS.out⟩
      case measure => simp [intOf]; omega
    · obtain rfl : k = 7 := by omega
      have HN := Lib.hid (HR.out.next (T' := 109) (ps' := ptrs2 w.heap.size))
      obtain ⟨wo, rfl⟩ : ∃ wo : World, wo = wr := ⟨_, rfl⟩
      go_wp2_with fail
      go_loopw [36] (fun i wr => ∃ k : Nat, k ≤ 4 ∧ i = .int .i64 k ∧ Cp w wo.heap.size 109 (ptrs2 w.heap.size) wr) (fun i _ => 4 - (intOf i).toNat)
      case atStart => exact ⟨0, by omega, rfl, HN.out⟩
      case round =>
        obtain ⟨k, hk, rfl, hcp⟩ := hrel
        have HR := Lib.hid hcp
        clear hcp
        by_cases hlt : k < 4
        · obtain ⟨j, hj, hp⟩ := ptrs2_at w.heap.size k hlt
          obtain ⟨hc, hf⟩ := HR.out.cell (k := j) hj
          have h0 := (HR.out.p.cell k).trans hp
          have HS := Lib.hid (HR.out.set (k := j) hj)
          clear hp
          go_wp2_with fail
          refine wp_loop_rounds 1 ?_
          rw [rounds_succ]
          go_wp2_with fail
          go_roundw
          case rel => exact ⟨k + 1, by omega, by go_num, HS.out⟩
          case measure => simp [intOf]; omega
        · obtain rfl : k = 4 := by omega
          obtain ⟨hc, hf⟩ := HR.out.cell (k := 10) (by omega)
          have HS := Lib.hid (HR.out.set (k := 10) (by omega))
          obtain ⟨x0, x1, x2, x3, x4, x5, x6, x7, x8, x9, x10, x11⟩ := box_cells HS.out.t
          obtain ⟨y0, y1, y2, y3, y4, y5, y6, y7, y8, y9, y10, y11⟩ := box_cells HS.out.r
          have fr := HS.out.r.frozen
          have HE := Lib.hid HS.out.all
          go_wp2_with fail
          clear x0 x1 x2 x3 x4 x5 x6 x7 x8 x9 x10 x11 y0 y1 y2 y3 y4 y5 y6 y7 y8 y9 y10 y11 fr
          exact bodyPost_ret (results_cell_row (P := Tryz.prog) (p := 2) (ty := 30) rfl _ _ (w.heap.size + 1) _ _ _ _ rfl HE.out.r Tryz.underlying30 rfl (by kernel_rfl)) rfl ⟨rfl, HE.out.b⟩
end Go.Proofs.YtddieenjdaociaaGreatDoor
namespace Go.Proofs.YtddieenjdaociaaGreatDoor
open Go Go.RowKit Go.Shelf
set_option linter.unusedVariables false

/-- A small letter; a capital one. -/
def Lo (c : Int) : Prop := 97 ≤ c ∧ c ≤ 122
def Up (c : Int) : Prop := 65 ≤ c ∧ c ≤ 90
theorem search_zero (f : Value) (w : World) : Calls Tryz.prog 103 #[.int .i64 0, f] w fun e w' => e = .returned (.int .i64 0) ∧ w' = w := by
  go_enter Tryz.func103, Tryz.ntmps103
  go_wp2_with fail
  refine wp_loop_rounds 1 ?_
  rw [rounds_succ]
  go_wp2_with fail
  go_ret
  exact ⟨rfl, rfl⟩
set_option maxHeartbeats 1000000 in
theorem find_nil (c : Int) (w : World) : Calls Tryz.prog 80 #[.slice none 0 0, .int .i64 c] w fun e w' => e = .returned (.slice none 0 0) ∧ Below w.heap.size w w' := by
  have hmf : ∀ (fn : Fn) (first cap : Array Value) (w : World), (Instr.makeFunc fn first cap).run Tryz.prog w = .ok (.func fn first cap) w := fun _ _ _ _ => rfl
  go_enter Tryz.func80, Tryz.ntmps80
  go_wp2_with fail
  refine (search_zero _ _).mono ?_
  rintro e w1 ⟨rfl, rfl⟩
  go_wp2_with fail
  go_quiet (fail)
  go_wp2_with fail
  go_ret
  exact ⟨rfl, below_drewN (below_two _ _ _) _⟩
set_option maxHeartbeats 1000000 in
theorem value_nil (c : Int) (w : World) : Calls Tryz.prog 131 #[.slice none 0 0, .int .i64 c] w fun e w' => e = .returned (.int .i64 0) ∧ Below w.heap.size w w' := by
  have hmf : ∀ (fn : Fn) (first cap : Array Value) (w : World), (Instr.makeFunc fn first cap).run Tryz.prog w = .ok (.func fn first cap) w := fun _ _ _ _ => rfl
  go_enter Tryz.func131, Tryz.ntmps131
  go_wp2_with fail
  refine (search_zero _ _).mono ?_
  rintro e w1 ⟨rfl, rfl⟩
  go_wp2_with fail
  go_quiet (fail)
  go_wp2_with fail
  go_ret
  exact ⟨rfl, below_drewN (below_two _ _ _) _⟩
theorem scalar_ascii (c : Int) (h0 : 0 ≤ c) (h1 : c ≤ 127) (w : World) : Calls Tryz.prog 100 #[.int .i64 c] w fun e w' => e = .returned (.bool true) ∧ w' = w := by
  have h2 : c ≤ 1114111 := by omega
  have h3 : c < 55296 := by omega
  go_enter Tryz.func100, Tryz.ntmps100
  go_wp2
  go_ret
  exact ⟨rfl, rfl⟩
theorem length_ascii (c : Int) (h0 : 0 ≤ c) (h1 : c ≤ 127) (w : World) : Calls Tryz.prog 75 #[.int .i64 c] w fun e w' => e = .returned (.int .i64 1) ∧ w' = w := by
  go_enter Tryz.func75, Tryz.ntmps75
  go_wp2_with fail
  refine (scalar_ascii c h0 h1 _).mono ?_
  rintro e w1 ⟨rfl, rfl⟩
  go_wp2_with fail
  go_ret
  exact ⟨rfl, rfl⟩
theorem reserved_ascii (c : Int) (h0 : 0 ≤ c) (h1 : c ≤ 127) (w : World) : Calls Tryz.prog 99 #[.int .i64 c] w fun e w' => e = .returned (.bool true) ∧ w' = w := by
  go_enter Tryz.func99, Tryz.ntmps99
  go_wp2
  go_ret
  exact ⟨rfl, rfl⟩
def lowProps : Array Value := #[.int .i64 1, .int .i64 0, .int .i64 3, .int .i64 1]
def upProps : Array Value := #[.int .i64 1, .int .i64 0, .int .i64 3, .int .i64 3]
theorem fixed_low (c : Int) (h0 : 97 ≤ c) (h1 : c ≤ 122) (w : World) : Calls Tryz.prog 130 #[.int .i64 c] w fun e w' => e = .returned (.agg lowProps) ∧ Below w.heap.size w w' := by
  go_enter Tryz.func130, Tryz.ntmps130
  go_wp2_with fail
  have hb := Bk.new w 175 lowProps
  exact bodyPost_ret (results_cell_row (P := Tryz.prog) (p := 2) (ty := 175) rfl _ _ w.heap.size _ _ _ _ rfl hb Tryz.underlying175 rfl (by kernel_rfl)) rfl ⟨rfl, (Below.refl _ _).alloc (Nat.le_refl _) _⟩
theorem fixed_up (c : Int) (h0 : 65 ≤ c) (h1 : c ≤ 90) (w : World) : Calls Tryz.prog 130 #[.int .i64 c] w fun e w' => e = .returned (.agg upProps) ∧ Below w.heap.size w w' := by
  have h2 : c < 97 := by omega
  go_enter Tryz.func130, Tryz.ntmps130
  go_wp2_with fail
  have hb := Bk.new w 175 upProps
  exact bodyPost_ret (results_cell_row (P := Tryz.prog) (p := 2) (ty := 175) rfl _ _ w.heap.size _ _ _ _ rfl hb Tryz.underlying175 rfl (by kernel_rfl)) rfl ⟨rfl, (Below.refl _ _).alloc (Nat.le_refl _) _⟩
end Go.Proofs.YtddieenjdaociaaGreatDoor
namespace Go.Proofs.YtddieenjdaociaaGreatDoor
open Go Go.RowKit Go.Shelf
set_option linter.unusedVariables false

/-- A closure that picks field i of the properties. -/
theorem own_cat (cs : Array Value) (h : cs.size = 4) (v : Int) (hv : cs[0]? = some (.int .i64 v)) (w : World) : Calls Tryz.prog 227 #[.agg cs] w fun e w' => e = .returned (.int .i64 v) ∧ Below w.heap.size w w' := by
  have hb := Bk.new w 175 cs
  have hc := (hb.cell 0).trans hv
  clear hb hv
  go_enter Tryz.func227, Tryz.ntmps227
  go_wp2_with fail
  go_ret
  exact ⟨rfl, (Below.refl _ _).alloc (Nat.le_refl _) _⟩
theorem own_bid (cs : Array Value) (h : cs.size = 4) (v : Int) (hv : cs[1]? = some (.int .i64 v)) (w : World) : Calls Tryz.prog 230 #[.agg cs] w fun e w' => e = .returned (.int .i64 v) ∧ Below w.heap.size w w' := by
  have hb := Bk.new w 175 cs
  have hc := (hb.cell 1).trans hv
  clear hb hv
  go_enter Tryz.func230, Tryz.ntmps230
  go_wp2_with fail
  go_ret
  exact ⟨rfl, (Below.refl _ _).alloc (Nat.le_refl _) _⟩
theorem own_sta (cs : Array Value) (h : cs.size = 4) (v : Int) (hv : cs[3]? = some (.int .i64 v)) (w : World) : Calls Tryz.prog 102 #[.agg cs] w fun e w' => e = .returned (.int .i64 v) ∧ Below w.heap.size w w' := by
  have hb := Bk.new w 175 cs
  have hc := (hb.cell 3).trans hv
  clear hb hv
  go_enter Tryz.func102, Tryz.ntmps102
  go_wp2_with fail
  go_ret
  exact ⟨rfl, (Below.refl _ _).alloc (Nat.le_refl _) _⟩
theorem pick_low (f : FuncId) (v c : Int) (h0 : 97 ≤ c) (h1 : c ≤ 122) (he : ∀ args w, (callFunc f args).run Tryz.prog w = .ok (.enter f args) w)
    (hf : ∀ w : World, Calls Tryz.prog f #[.agg lowProps] w fun e w' => e = .returned (.int .i64 v) ∧ Below w.heap.size w w') (w : World) :
    Calls Tryz.prog 101 #[.slice none 0 0, .int .i64 c, .func (.func f) #[] #[]] w fun e w' => e = .returned (.int .i64 v) ∧ Below w.heap.size w w' := by
  have HF := Lib.hid hf
  clear hf
  go_enter Tryz.func101, Tryz.ntmps101
  go_wp2_with fail
  refine (length_ascii c (by omega) (by omega) _).mono ?_
  rintro e w1 ⟨rfl, rfl⟩
  go_wp2_with fail
  refine (reserved_ascii c (by omega) (by omega) _).mono ?_
  rintro e w1 ⟨rfl, rfl⟩
  go_wp2_with fail
  refine (fixed_low c h0 h1 _).mono ?_
  rintro e w1 ⟨rfl, hb⟩
  go_wp2_with fail
  refine (HF.out _).mono ?_
  rintro e w2 ⟨rfl, hb2⟩
  go_wp2_with fail
  go_ret
  exact ⟨rfl, below_step hb hb2⟩
theorem pick_up (f : FuncId) (v c : Int) (h0 : 65 ≤ c) (h1 : c ≤ 90) (he : ∀ args w, (callFunc f args).run Tryz.prog w = .ok (.enter f args) w)
    (hf : ∀ w : World, Calls Tryz.prog f #[.agg upProps] w fun e w' => e = .returned (.int .i64 v) ∧ Below w.heap.size w w') (w : World) :
    Calls Tryz.prog 101 #[.slice none 0 0, .int .i64 c, .func (.func f) #[] #[]] w fun e w' => e = .returned (.int .i64 v) ∧ Below w.heap.size w w' := by
  have HF := Lib.hid hf
  clear hf
  go_enter Tryz.func101, Tryz.ntmps101
  go_wp2_with fail
  refine (length_ascii c (by omega) (by omega) _).mono ?_
  rintro e w1 ⟨rfl, rfl⟩
  go_wp2_with fail
  refine (reserved_ascii c (by omega) (by omega) _).mono ?_
  rintro e w1 ⟨rfl, rfl⟩
  go_wp2_with fail
  refine (fixed_up c h0 h1 _).mono ?_
  rintro e w1 ⟨rfl, hb⟩
  go_wp2_with fail
  refine (HF.out _).mono ?_
  rintro e w2 ⟨rfl, hb2⟩
  go_wp2_with fail
  go_ret
  exact ⟨rfl, below_step hb hb2⟩
theorem box_below {w w' : World} (h : Below (w.alloc (.cells t0c 30)).heap.size (w.alloc (.cells t0c 30)) w') : Below w.heap.size w w' :=
  ((Below.refl w.heap.size w).alloc (Nat.le_refl _) _).trans (h.mono (by simp))
theorem category_low (c : Int) (h0 : 97 ≤ c) (h1 : c ≤ 122) (w : World) : Calls Tryz.prog 207 #[t0, .int .i64 c] w fun e w' => e = .returned (.int .i64 1) ∧ Below w.heap.size w w' := by
  go_enter Tryz.func207, Tryz.ntmps207
  go_wp2_with fail
  refine (pick_low _ 1 c h0 h1 (enters_of Tryz.func227 (by kernel_rfl) rfl) (own_cat lowProps rfl 1 rfl) _).mono ?_
  rintro e w1 ⟨rfl, hb⟩
  go_wp2_with fail
  go_ret
  exact ⟨rfl, box_below hb⟩
theorem bidi_low (c : Int) (h0 : 97 ≤ c) (h1 : c ≤ 122) (w : World) : Calls Tryz.prog 213 #[t0, .int .i64 c] w fun e w' => e = .returned (.int .i64 0) ∧ Below w.heap.size w w' := by
  go_enter Tryz.func213, Tryz.ntmps213
  go_wp2_with fail
  refine (pick_low _ 0 c h0 h1 (enters_of Tryz.func230 (by kernel_rfl) rfl) (own_bid lowProps rfl 0 rfl) _).mono ?_
  rintro e w1 ⟨rfl, hb⟩
  go_wp2_with fail
  go_ret
  exact ⟨rfl, box_below hb⟩
theorem status_low (c : Int) (h0 : 97 ≤ c) (h1 : c ≤ 122) (w : World) : Calls Tryz.prog 76 #[t0, .int .i64 c] w fun e w' => e = .returned (.int .i64 1) ∧ Below w.heap.size w w' := by
  go_enter Tryz.func76, Tryz.ntmps76
  go_wp2_with fail
  refine (pick_low _ 1 c h0 h1 (enters_of Tryz.func102 (by kernel_rfl) rfl) (own_sta lowProps rfl 1 rfl) _).mono ?_
  rintro e w1 ⟨rfl, hb⟩
  go_wp2_with fail
  go_ret
  exact ⟨rfl, box_below hb⟩
theorem status_up (c : Int) (h0 : 65 ≤ c) (h1 : c ≤ 90) (w : World) : Calls Tryz.prog 76 #[t0, .int .i64 c] w fun e w' => e = .returned (.int .i64 3) ∧ Below w.heap.size w w' := by
  go_enter Tryz.func76, Tryz.ntmps76
  go_wp2_with fail
  refine (pick_up _ 3 c h0 h1 (enters_of Tryz.func102 (by kernel_rfl) rfl) (own_sta upProps rfl 3 rfl) _).mono ?_
  rintro e w1 ⟨rfl, hb⟩
  go_wp2_with fail
  go_ret
  exact ⟨rfl, box_below hb⟩
theorem class_t0 (c : Int) (w : World) : Calls Tryz.prog 106 #[t0, .int .i64 c] w fun e w' => e = .returned (.int .i64 0) ∧ Below w.heap.size w w' := by
  go_enter Tryz.func106, Tryz.ntmps106
  go_wp2_with fail
  refine (value_nil c _).mono ?_
  rintro e w1 ⟨rfl, hb⟩
  go_wp2_with fail
  go_ret
  exact ⟨rfl, box_below hb⟩
theorem ignorable_t0 (c : Int) (w : World) : Calls Tryz.prog 108 #[t0, .int .i64 c] w fun e w' => e = .returned (.bool false) ∧ Below w.heap.size w w' := by
  go_enter Tryz.func108, Tryz.ntmps108
  go_wp2_with fail
  refine (value_nil c _).mono ?_
  rintro e w1 ⟨rfl, hb⟩
  go_wp2_with fail
  go_ret
  exact ⟨rfl, box_below hb⟩
theorem copied_nil (w : World) : Calls Tryz.prog 199 #[.slice none 0 0] w fun e w' => e = .returned (.slice none 0 0) ∧ w' = w := by
  go_enter Tryz.func199, Tryz.ntmps199
  go_wp2_with fail
  go_ret
  exact ⟨rfl, rfl⟩
theorem decomp_t0 (c : Int) (w : World) : Calls Tryz.prog 236 #[t0, .int .i64 c] w fun e w' => e = .returned (.slice none 0 0) ∧ Below w.heap.size w w' := by
  go_enter Tryz.func236, Tryz.ntmps236
  go_wp2_with fail
  refine (find_nil c _).mono ?_
  rintro e w1 ⟨rfl, hb⟩
  go_wp2_with fail
  refine (copied_nil _).mono ?_
  rintro e w2 ⟨rfl, rfl⟩
  go_wp2_with fail
  go_ret
  exact ⟨rfl, box_below hb⟩
theorem prototype_t0 (c : Int) (w : World) : Calls Tryz.prog 218 #[t0, .int .i64 c] w fun e w' => e = .returned (.slice none 0 0) ∧ Below w.heap.size w w' := by
  go_enter Tryz.func218, Tryz.ntmps218
  go_wp2_with fail
  refine (find_nil c _).mono ?_
  rintro e w1 ⟨rfl, hb⟩
  go_wp2_with fail
  refine (copied_nil _).mono ?_
  rintro e w2 ⟨rfl, rfl⟩
  go_wp2_with fail
  go_ret
  exact ⟨rfl, box_below hb⟩
theorem maps_up (c : Int) (h0 : 65 ≤ c) (h1 : c ≤ 90) (w : World) : Calls Tryz.prog 179 #[t0, .int .i64 c] w (RetI 3 [c + 32] w) := by
  go_enter Tryz.func179, Tryz.ntmps179
  go_wp2_with fail
  go_ret
  have e1 : c + 97 - 65 = c + 32 := by omega
  rw [e1]
  refine ⟨some ⟨w.heap.size + 1, 0, none⟩, 1, rfl, ?_, below_two _ _ _⟩
  have := own_built (w.alloc (.cells t0c 30)) w.heap.size 3 #[.int .i64 (c + 32)] 1 rfl (by unfold maxLen; omega) (by simp)
  simpa [ints] using this
end Go.Proofs.YtddieenjdaociaaGreatDoor
