/- The walks of a box's methods: New, Put, Take, Len. A channel in one goroutine: each communication is one step of the machine. -/
import Derived.Test.YtddieenjdaociaaGreatDoorProg
import Derived.Test.YtddieenjdaociaaGreatDoorM02
import Derived.Conc.LoneCalls
import Derived.Conc.LoneSelect
import Derived.Conc.LoneSelectN
import Derived.KernelRfl
import Derived.Laws.Rows
namespace Go.Proofs.YtddieenjdaociaaGreatDoor
open Go Go.RowKit Go.Conc
set_option linter.unusedVariables false

/-- The texts as cells. -/
def txt (l : List ByteArray) : Array Value := (l.map Value.string).toArray
/-- Block g is a box: its channel is block c, with room for cap texts, and holds the texts l, the eldest first. -/
def Box (w : World) (g c cap : Nat) (l : List ByteArray) : Prop :=
  w.heap[g]? = some (.cells #[.chan (some c)] 92 (0, 0)) ∧ ∃ s r, w.heap[c]? = some (.chan cap (txt l) false s r false)
theorem Box.lt {w : World} {g c cap : Nat} {l : List ByteArray} (h : Box w g c cap l) : g < w.heap.size ∧ c < w.heap.size ∧ g ≠ c := by
  obtain ⟨h1, s, r, h2⟩ := h
  refine ⟨(Array.getElem?_eq_some_iff.1 h1).1, (Array.getElem?_eq_some_iff.1 h2).1, ?_⟩
  rintro rfl
  rw [h1] at h2; injection h2 with h2; cases h2
theorem Box.cell {w : World} {g c cap : Nat} {l : List ByteArray} (h : Box w g c cap l) : w.cell? ⟨g, 0, none⟩ = some (.chan (some c)) := by
  rw [cell_of_row w g 0 _ _ _ h.1]; rfl
theorem Box.set {w : World} {g c cap : Nat} {l : List ByteArray} (h : Box w g c cap l) (l' : List ByteArray) (s r : Nat) : Box (w.setChan c cap (txt l') false s r false) g c cap l' := by
  obtain ⟨hg, hc, hne⟩ := h.lt
  refine ⟨?_, s, r, heap_setChan w c cap _ false s r false hc⟩
  have : (w.setChan c cap (txt l') false s r false).heap[g]? = w.heap[g]? := by
    simp [World.setChan, Array.getElem?_setIfInBounds_ne hne.symm]
  rw [this]; exact h.1
theorem Box.below {w w' : World} {g c cap B : Nat} {l : List ByteArray} (h : Box w g c cap l) (hb : Below B w w') (hg : g < B) (hc : c < B) : Box w' g c cap l := by
  obtain ⟨h1, s, r, h2⟩ := h
  exact ⟨(hb.block g hg).trans h1, s, r, (hb.block c hc).trans h2⟩
theorem Box.only {w w' : World} {g c cap : Nat} {l : List ByteArray} {row : Option Nat} (h : Box w g c cap l) (hb : w.grownBy w' row) (hg : some g ≠ row) (hc : some c ≠ row) : Box w' g c cap l := by
  obtain ⟨hlg, hlc, _⟩ := h.lt
  obtain ⟨h1, s, r, h2⟩ := h
  exact ⟨(hb.block g hlg hg).trans h1, s, r, (hb.block c hlc hc).trans h2⟩
theorem only_setChan {w : World} (c cap : Nat) (buf : Array Value) (cl : Bool) (s r : Nat) (tm : Bool) : w.grownBy (w.setChan c cap buf cl s r tm) (some c) :=
  ⟨rfl, rfl, rfl, by simp [World.setChan], fun k hk hn => by
    simp only [World.setChan]; rw [Array.getElem?_setIfInBounds_ne (by rintro rfl; exact hn rfl)]⟩

theorem info_string : ∃ i, Tryz.prog.info? 9 = some i ∧ i.bytes = 16 := by
  have h : (Tryz.prog.info? 9).map (·.bytes) = some 16 := by kernel_rfl
  obtain ⟨i, hi, hb⟩ := Option.map_eq_some_iff.1 h
  exact ⟨i, hi, hb⟩
theorem mk_chan (n : Nat) (hn : n ≤ 8) (w : World) : (Instr.makeChan 90 (.int .i64 (n : Int))).run Tryz.prog w = .ok (.chan (some w.heap.size)) (w.alloc (.chan n #[] false 0 0 false)) := by
  obtain ⟨i, hi, hb⟩ := info_string
  exact run_makeChan (P := Tryz.prog) (w := w) Tryz.underlying90 hi .i64 n (by omega) (by rw [hb]; omega)

/-- New, a number that is in range: a box that is empty. -/
def RetBox (n : Nat) (w : World) (e : Ending) (w' : World) : Prop :=
  ∃ g c, e = .returned (.tuple #[.pointer (some ⟨g, 0, none⟩), .int .i64 0]) ∧ Box w' g c n [] ∧ w.heap.size ≤ g ∧ w.heap.size ≤ c ∧ Below w.heap.size w w'
set_option maxHeartbeats 400000 in
theorem new_yes (n : Nat) (h1 : 1 ≤ n) (h8 : n ≤ 8) (w : World) : Calls Tryz.prog 11 #[.int .i64 (n : Int)] w (RetBox n w) := by
  have hmc := mk_chan n h8
  have a1 : (1 : Int) ≤ (n : Int) := by omega
  have a2 : (n : Int) ≤ 8 := by omega
  go_enter Tryz.func11, Tryz.ntmps11
  go_wp2
  go_ret2
  refine ⟨w.heap.size + 1, w.heap.size, rfl, ⟨?_, 0, 0, ?_⟩, by omega, by omega, ((Below.refl _ _).alloc (Nat.le_refl _) _).alloc (by simp) _⟩
  · have := heap_alloc_new (w.alloc (.chan n #[] false 0 0 false)) (.cells #[.chan (some w.heap.size)] 92)
    simpa using this
  · rw [Below.heap_alloc _ _ _ (by simp)]
    exact heap_alloc_new w _
theorem new_no (m : Int) (h : m < 1 ∨ 8 < m) (w : World) : Calls Tryz.prog 11 #[.int .i64 m] w fun e w' => e = .returned (.tuple #[.pointer none, .int .i64 3]) ∧ w = w' := by
  rcases h with h | h
  · go_enter Tryz.func11, Tryz.ntmps11
    go_wp2
    go_ret2
    exact ⟨rfl, rfl⟩
  · have h1 : ¬ m < 1 := by omega
    go_enter Tryz.func11, Tryz.ntmps11
    go_wp2
    go_ret2
    exact ⟨rfl, rfl⟩

theorem len_any (g c cap : Nat) (l : List ByteArray) (w : World) (hx : Box w g c cap l) :
    Calls Tryz.prog 67 #[.pointer (some ⟨g, 0, none⟩)] w fun e w' => e = .returned (.int .i64 (l.length : Int)) ∧ w = w' := by
  have hc := hx.cell
  obtain ⟨_, s, r, h2⟩ := hx
  have hl := fun ty => run_len_chan (P := Tryz.prog) 90 ty Tryz.underlying90 h2
  have hs : (txt l).size = l.length := by simp [txt]
  rw [hs] at hl
  clear hs h2
  go_enter Tryz.func67, Tryz.ntmps67
  go_wp2
  go_ret
  exact ⟨rfl, rfl⟩

set_option maxRecDepth 100000 in
/-- Put, with room. -/
theorem put_yes (g c cap : Nat) (l : List ByteArray) (t : ByteArray) (w : World) (hx : Box w g c cap l) (hr : l.length < cap) :
    Calls Tryz.prog 13 #[.pointer (some ⟨g, 0, none⟩), .string t] w fun e w' => e = .returned (.bool true) ∧ Box w' g c cap (l ++ [t]) ∧ w.grownBy w' (some c) := by
  have hcell := hx.cell
  obtain ⟨_, s, r, h2⟩ := id hx
  refine calls_of_loneTo fun cs => ?_
  have e : Frame.enter Tryz.prog 13 #[.pointer (some ⟨g, 0, none⟩), .string t] .normal = (base 13).at ⟨#[.pointer (some ⟨g, 0, none⟩), .string t, undef, undef, undef, undef, undef, undef, undef, undef, undef, undef, undef], []⟩ [.code (Tryz.f13.body.getD .skip)] := by
    simp [Frame.enter, Frame.at, Tryz.func13, base, Tryz.f13]
  rw [e]
  clear e
  refine LoneTo.goes (n := 20) ?_
  simp only [Tryz.f13, Option.getD_some]
  s_c stepG_seq
  s_reg
  s_op
  s_c stepG_region_end
  s_c stepG_seq
  s_c stepG_seq
  s_reg
  s_op
  s_op
  s_op
  s_op
  s_c stepG_region_end
  s_reg
  s_op
  s_c stepG_region_end
  s_c stepG_seq
  s_reg
  s_stop
  refine LoneTo.step (step_lone_select_send_room (c := c) (cap := cap) (buf := txt l) (s := s) (r := r) (tm := false) (v := .string t) (z' := .string ByteArray.empty)
    (stepG_comm (cases := #[scase c (.string t) (.string ByteArray.empty)]) (blocking := false) (shape := .select) (w' := w) rfl rfl (by decide) (by simp [go_sem, execOp, scase, Act.eval]; rfl)) h2 (by simpa [txt] using hr)) ?_
  rw [Frame.finish_at]
  walk_nrm
  refine LoneTo.goes (n := 20) ?_
  s_op
  s_op
  s_c stepG_region_end
  s_c stepG_block
  s_cond true
  s_c stepG_seq
  s_reg
  s_op
  s_c stepG_region_end
  s_c stepG_ret'
  s_stop
  have hb : (txt l).push (.string t) = txt (l ++ [t]) := by simp [txt]
  rw [hb]
  refine LoneTo.done ⟨.returned (.bool true), _, rfl, ⟨rfl, hx.set _ _ _, only_setChan c cap _ false _ _ false⟩, rfl, rfl, rfl, rfl, _, Tryz.func13, by simp [results, Tryz.f13, Frame.at]⟩

set_option maxRecDepth 100000 in
/-- Put, without room. -/
theorem put_no (g c cap : Nat) (l : List ByteArray) (t : ByteArray) (w : World) (hx : Box w g c cap l) (hr : cap ≤ l.length) :
    Calls Tryz.prog 13 #[.pointer (some ⟨g, 0, none⟩), .string t] w fun e w' => e = .returned (.bool false) ∧ w = w' := by
  have hcell := hx.cell
  obtain ⟨_, s, r, h2⟩ := id hx
  refine calls_of_loneTo fun cs => ?_
  have e : Frame.enter Tryz.prog 13 #[.pointer (some ⟨g, 0, none⟩), .string t] .normal = (base 13).at ⟨#[.pointer (some ⟨g, 0, none⟩), .string t, undef, undef, undef, undef, undef, undef, undef, undef, undef, undef, undef], []⟩ [.code (Tryz.f13.body.getD .skip)] := by
    simp [Frame.enter, Frame.at, Tryz.func13, base, Tryz.f13]
  rw [e]
  clear e
  refine LoneTo.goes (n := 20) ?_
  simp only [Tryz.f13, Option.getD_some]
  s_c stepG_seq
  s_reg
  s_op
  s_c stepG_region_end
  s_c stepG_seq
  s_c stepG_seq
  s_reg
  s_op
  s_op
  s_op
  s_op
  s_c stepG_region_end
  s_reg
  s_op
  s_c stepG_region_end
  s_c stepG_seq
  s_reg
  s_stop
  refine LoneTo.step (step_lone_select_send_full (c := c) (cap := cap) (buf := txt l) (s := s) (r := r) (tm := false) (v := .string t) (z' := .string ByteArray.empty)
    (stepG_comm (cases := #[scase c (.string t) (.string ByteArray.empty)]) (blocking := false) (shape := .select) (w' := w) rfl rfl (by decide) (by simp [go_sem, execOp, scase, Act.eval]; rfl)) h2 (by simpa [txt] using hr)) ?_
  rw [Frame.finish_at]
  walk_nrm
  refine LoneTo.goes (n := 20) ?_
  s_op
  s_op
  s_c stepG_region_end
  s_c stepG_block
  s_cond false
  s_c stepG_seq
  s_reg
  s_op
  s_c stepG_region_end
  s_c stepG_ret'
  s_stop
  refine LoneTo.done ⟨.returned (.bool false), _, rfl, ⟨rfl, rfl⟩, rfl, rfl, rfl, rfl, _, Tryz.func13, by simp [results, Tryz.f13, Frame.at]⟩

set_option maxRecDepth 100000 in
/-- Take, from a box that holds something. -/
theorem take_yes (g c cap : Nat) (t : ByteArray) (l : List ByteArray) (w : World) (hx : Box w g c cap (t :: l)) :
    Calls Tryz.prog 48 #[.pointer (some ⟨g, 0, none⟩)] w fun e w' => e = .returned (.tuple #[.string t, .bool true]) ∧ Box w' g c cap l ∧ w.grownBy w' (some c) := by
  have hcell := hx.cell
  obtain ⟨_, s, r, h2⟩ := id hx
  refine calls_of_loneTo fun cs => ?_
  have e : Frame.enter Tryz.prog 48 #[.pointer (some ⟨g, 0, none⟩)] .normal = (base 48).at ⟨#[.pointer (some ⟨g, 0, none⟩), undef, undef, undef, undef, undef, undef, undef, undef, undef, undef, undef, undef, undef], []⟩ [.code (Tryz.f48.body.getD .skip)] := by
    simp [Frame.enter, Frame.at, Tryz.func48, base, Tryz.f48]
  rw [e]
  clear e
  refine LoneTo.goes (n := 20) ?_
  simp only [Tryz.f48, Option.getD_some]
  s_c stepG_seq
  s_reg
  s_op
  s_op
  s_c stepG_region_end
  s_c stepG_seq
  s_reg
  s_op
  s_op
  s_op
  s_op
  s_c stepG_region_end
  s_c stepG_seq
  s_reg
  s_stop
  refine LoneTo.step (step_lone_select_recv_buf (c := c) (cap := cap) (buf := txt (t :: l)) (closed := false) (s := s) (r := r) (tm := false) (z := .string ByteArray.empty)
    (stepG_comm (cases := #[rcase c (.string ByteArray.empty)]) (blocking := false) (shape := .select) (w' := w) rfl rfl (by decide) (by simp [go_sem, execOp, rcase, Act.eval]; rfl)) h2 (by simp [txt])) ?_
  have hb : (txt (t :: l)).extract 1 (txt (t :: l)).size = txt l := by
    simp [txt]; exact List.take_of_length_le (by simp)
  have hd : (txt (t :: l)).getD 0 undef = .string t := by simp [txt]
  rw [hb, hd]
  rw [Frame.finish_at]
  walk_nrm
  refine LoneTo.goes (n := 20) ?_
  s_op
  s_op
  s_c stepG_region_end
  s_c stepG_block
  s_cond true
  s_c stepG_seq
  s_reg
  s_op
  s_op
  s_c stepG_region_end
  s_c stepG_seq
  s_reg
  s_op
  s_op
  s_op
  s_c stepG_region_end
  s_c stepG_ret'
  s_stop
  refine LoneTo.done ⟨.returned (.tuple #[.string t, .bool true]), _, rfl, ⟨rfl, hx.set _ _ _, only_setChan c cap _ false _ _ false⟩, rfl, rfl, rfl, rfl, _, Tryz.func48, by simp [results, Tryz.f48, Frame.at]⟩

set_option maxRecDepth 100000 in
/-- Take, from an empty box. -/
theorem take_no (g c cap : Nat) (w : World) (hx : Box w g c cap []) :
    Calls Tryz.prog 48 #[.pointer (some ⟨g, 0, none⟩)] w fun e w' => e = .returned (.tuple #[.string ByteArray.empty, .bool false]) ∧ w = w' := by
  have hcell := hx.cell
  obtain ⟨_, s, r, h2⟩ := id hx
  refine calls_of_loneTo fun cs => ?_
  have e : Frame.enter Tryz.prog 48 #[.pointer (some ⟨g, 0, none⟩)] .normal = (base 48).at ⟨#[.pointer (some ⟨g, 0, none⟩), undef, undef, undef, undef, undef, undef, undef, undef, undef, undef, undef, undef, undef], []⟩ [.code (Tryz.f48.body.getD .skip)] := by
    simp [Frame.enter, Frame.at, Tryz.func48, base, Tryz.f48]
  rw [e]
  clear e
  refine LoneTo.goes (n := 20) ?_
  simp only [Tryz.f48, Option.getD_some]
  s_c stepG_seq
  s_reg
  s_op
  s_op
  s_c stepG_region_end
  s_c stepG_seq
  s_reg
  s_op
  s_op
  s_op
  s_op
  s_c stepG_region_end
  s_c stepG_seq
  s_reg
  s_stop
  refine LoneTo.step (step_lone_select_default (c := c) (cap := cap) (s := s) (r := r) (tm := false) (z := .string ByteArray.empty)
    (stepG_comm (cases := #[rcase c (.string ByteArray.empty)]) (blocking := false) (shape := .select) (w' := w) rfl rfl (by decide) (by simp [go_sem, execOp, rcase, Act.eval]; rfl)) h2) ?_
  rw [Frame.finish_at]
  walk_nrm
  refine LoneTo.goes (n := 20) ?_
  s_op
  s_op
  s_c stepG_region_end
  s_c stepG_block
  s_cond false
  s_c stepG_seq
  s_reg
  s_op
  s_op
  s_c stepG_region_end
  s_c stepG_ret'
  s_stop
  refine LoneTo.done ⟨.returned (.tuple #[.string ByteArray.empty, .bool false]), _, rfl, ⟨rfl, rfl⟩, rfl, rfl, rfl, rfl, _, Tryz.func48, by simp [results, Tryz.f48, Frame.at]; rfl⟩
end Go.Proofs.YtddieenjdaociaaGreatDoor
