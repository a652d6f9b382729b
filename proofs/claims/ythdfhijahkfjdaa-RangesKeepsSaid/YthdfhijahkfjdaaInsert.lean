/- The walk of ranges.insert. -/
import Derived.Test.YthdfhijahkfjdaaFind
import Derived.Deep.RegionHeld3
namespace Go.Proofs.Ythdfhijahkfjdaa
open Go Go.RowKit
set_option linter.unusedVariables false

theorem spans_take : ∀ (l : List Rg.Sn) (k : Nat), spans (l.take k) = (spans l).take (k * 3)
  | l, 0 => by simp [spans]
  | [], k + 1 => by simp [spans]
  | s :: r, k + 1 => by
    rw [List.take_succ_cons]
    show s.cells3 ++ spans (r.take k) = (s.cells3 ++ spans r).take ((k + 1) * 3)
    rw [spans_take r k, List.take_append]
    have : (k + 1) * 3 - s.cells3.length = k * 3 := by simp [Rg.Sn.cells3]; omega
    rw [this, List.take_of_length_le (l := s.cells3) (by simp [Rg.Sn.cells3]; omega)]
theorem spans_drop : ∀ (l : List Rg.Sn) (k : Nat), spans (l.drop k) = (spans l).drop (k * 3)
  | l, 0 => by simp
  | [], k + 1 => by simp [spans]
  | s :: r, k + 1 => by
    rw [List.drop_succ_cons]
    show spans (r.drop k) = (s.cells3 ++ spans r).drop ((k + 1) * 3)
    rw [spans_drop r k, List.drop_append]
    have : (k + 1) * 3 - s.cells3.length = k * 3 := by simp [Rg.Sn.cells3]; omega
    have e : s.cells3.drop ((k + 1) * 3) = [] := List.drop_of_length_le (by simp [Rg.Sn.cells3]; omega)
    rw [this, e]
    rfl
theorem rd_take {w : World} {B n : Nat} {A : Option Addr} {l : List Rg.Sn} (h : Rd w B 3 A n (spans l)) {k : Nat} (hk : k ≤ n) : Rd w B 3 A k (spans (l.take k)) := by
  have hl := rg_len h
  refine ⟨by rw [spans_length]; simp; omega, fun hn => ?_⟩
  rw [spans_length] at hn
  obtain ⟨b, off, hA, hb, hc⟩ := h.2 (by rw [spans_length]; simp at hn; omega)
  refine ⟨b, off, hA, hb, fun j u hu => hc j u ?_⟩
  rw [spans_take] at hu
  have hj : j < k * 3 := by have := (List.getElem?_eq_some_iff.1 hu).1; simp at this; omega
  rwa [List.getElem?_take_of_lt hj] at hu
theorem rd_drop {w : World} {B n b off : Nat} {l : List Rg.Sn} (h : Rd w B 3 (some ⟨b, off, none⟩) n (spans l)) {k : Nat} (hk : k ≤ n) : Rd w B 3 (some ⟨b, off + k * 3, none⟩) (n - k) (spans (l.drop k)) := by
  have hl := rg_len h
  refine ⟨by rw [spans_length]; simp; omega, fun hn => ?_⟩
  rw [spans_length] at hn
  obtain ⟨b', off', hA, hb, hc⟩ := h.2 (by rw [spans_length]; simp at hn; omega)
  injection hA with hA; injection hA with e1 e2
  subst e1; subst e2
  refine ⟨b, off + k * 3, rfl, hb, fun j u hu => ?_⟩
  rw [spans_drop, List.getElem?_drop] at hu
  have := hc _ u hu
  rwa [← Nat.add_assoc] at this
theorem rd_end {w : World} {B : Nat} {A : Option Addr} (l : List Rg.Sn) {n k : Nat} (hn : n = k) (hl : l.length = n) : Rd w B 3 A (n - k) (spans (l.drop k)) := by
  subst hn
  rw [List.drop_of_length_le (by omega), Nat.sub_self]
  exact Rd.nil_ _ _ _ _

/-- The address of l[k:]. -/
def dropA (A : Option Addr) (c k : Nat) : Option Addr := if c = k then A else A.map (·.add (k * 3))
theorem run_slice_from (A : Option Addr) (n c k : Nat) (hk : k ≤ n) (hc : n ≤ c) (w : World) :
    (Instr.slice 23 (.slice A n c) (some (.int .i64 (k : Int))) none none).run Try.prog w = .ok (.slice (dropA A c k) (n - k) (c - k)) w := by
  simp [Instr.slice, Instr.sliceBounds, Instr.sliceBound, asIntOf, run_underlying Try.underlying23, Try.sizeOf25, dropA, hk]
theorem rd_dropA {w : World} {B n c : Nat} {A : Option Addr} {l : List Rg.Sn} (h : Rd w B 3 A n (spans l)) {k : Nat} (hk : k ≤ n) (hc : n ≤ c) : Rd w B 3 (dropA A c k) (n - k) (spans (l.drop k)) := by
  have hl := rg_len h
  unfold dropA
  by_cases hck : c = k
  · rw [if_pos hck]
    exact rd_end l (by omega) hl
  · rw [if_neg hck]
    cases A with
    | none =>
      have hn : n = 0 := by
        by_cases h0 : 0 < n
        · obtain ⟨b, off, hA, _⟩ := h.2 (by rw [spans_length]; omega)
          cases hA
        · omega
      exact rd_end l (by omega) hl
    | some a =>
      by_cases h0 : 0 < n
      · obtain ⟨b, off, hA, _⟩ := h.2 (by rw [spans_length]; omega)
        injection hA with hA
        subst hA
        have e : (some (⟨b, off, none⟩ : Addr)).map (·.add (k * 3)) = some ⟨b, off + k * 3, none⟩ := by
          show some ((⟨b, off, none⟩ : Addr).add (k * 3)) = _
          congr 1
          unfold Addr.add; split <;> simp_all
        rw [e]
        exact rd_drop h hk
      · exact rd_end l (by omega) hl
/-- append(out, ys...) at []Span, at a step of a region that draws its order. -/
theorem step_app_span {w : World} {ops : Array Oper} {o : Oper} {a : Act} {K : Act → World → Prop} {Q : Exit → Act → World → Prop} {E : Prop} (hgd : o.guard = none) (s x : Operand)
    (ho : o.op = .call { callee := .builtin .append, args := #[s, x], argTypes := #[23, 23] })
    {base : Nat} {v : Value} {n : Nat} {xs : List Rg.Sn} (hs : a.eval s = v) (hown : w.ownsRow base 25 3 v n (spans xs))
    {B : Nat} {A : Option Addr} {m c : Nat} {ys : List Rg.Sn} (hx : a.eval x = .slice A m c) (hr : Rd w B 3 A m (spans ys))
    (hlen : n + m ≤ 5000000000000) (hbase : base ≤ w.heap.size)
    (h : ∀ A' c' w', w'.ownsRow base 25 3 (.slice A' (n + m) c') (n + m) (spans (xs ++ ys)) → w.grownBy w' v.ownBlock →
      ((Value.slice A' (n + m) c').ownBlock = v.ownBlock ∨ (Value.slice A' (n + m) c').ownBlock = some w.heap.size) → K (a.put o.dst (.slice A' (n + m) c')) w') :
    if Region.wanted o (yielded ops a.tmps) = true then Oper.wp Try.prog o a w K Q else E := by
  have hw : Region.wanted o (yielded ops a.tmps) = true := by simp [Region.wanted, hgd]
  rw [if_pos hw]
  obtain ⟨i0, hi, hz0, hz1, hz2⟩ := info_parts info_span
  obtain ⟨v', w', hrun, h2, h3, h4⟩ := run_app (P := Try.prog) base 23 o.type 25 i0 (.agg #[.int .i64 0, .int .i64 0, .int .i64 0]) 3 24 Try.underlying23 hi hz0 hz1 hz2 rfl (by decide) v n (spans xs) hown B A m c (spans ys) hr (spans_one ys)
    (by unfold maxLen; omega) (by omega) hbase
  obtain ⟨A', c', rfl⟩ := own_form h2
  rw [← spans_append] at h2
  unfold Oper.wp execOp
  simp only [ho, resolve, invoke, builtin, Sem.run_bind, Sem.run_pure, Result.andThen_ok, List.map_toArray, List.map_cons, List.map_nil, hs, hx, hrun]
  exact h A' c' w' h2 h3 h4
theorem cell_far {w w' : World} {row : Option Nat} {b i : Nat} {u : Value} (hg : w.grownBy w' row) (hb : b < w.heap.size) (hne : row ≠ some b) (h : w.cell? ⟨b, i, none⟩ = some u) : w'.cell? ⟨b, i, none⟩ = some u :=
  (World.cell?_of_block (w := w) (a := ⟨b, i, none⟩) (hg.block b hb (fun e => hne e.symm))).trans h

/-- The boxes of insert: the list's, the span's. -/
theorem boxes_far {w w' : World} {row : Option Nat} {b : Nat} {u x y z : Value} (hg : w.grownBy w' row) (hb : b + 1 < w.heap.size) (hne : ∀ q, q ≤ b + 1 → row ≠ some q)
    (h : w.cell? ⟨b, 0, none⟩ = some u ∧ w.cell? ⟨b + 1, 0, none⟩ = some x ∧ w.cell? ⟨b + 1, 1, none⟩ = some y ∧ w.cell? ⟨b + 1, 2, none⟩ = some z) :
    w'.cell? ⟨b, 0, none⟩ = some u ∧ w'.cell? ⟨b + 1, 0, none⟩ = some x ∧ w'.cell? ⟨b + 1, 1, none⟩ = some y ∧ w'.cell? ⟨b + 1, 2, none⟩ = some z :=
  ⟨cell_far hg (by omega) (hne _ (by omega)) h.1, cell_far hg hb (hne _ (by omega)) h.2.1, cell_far hg hb (hne _ (by omega)) h.2.2.1, cell_far hg hb (hne _ (by omega)) h.2.2.2⟩
theorem boxes_alloc {w : World} {b : Nat} {u x y z : Value} (o : Obj) (hb : b + 1 < w.heap.size)
    (h : w.cell? ⟨b, 0, none⟩ = some u ∧ w.cell? ⟨b + 1, 0, none⟩ = some x ∧ w.cell? ⟨b + 1, 1, none⟩ = some y ∧ w.cell? ⟨b + 1, 2, none⟩ = some z) :
    (w.alloc o).cell? ⟨b, 0, none⟩ = some u ∧ (w.alloc o).cell? ⟨b + 1, 0, none⟩ = some x ∧ (w.alloc o).cell? ⟨b + 1, 1, none⟩ = some y ∧ (w.alloc o).cell? ⟨b + 1, 2, none⟩ = some z :=
  boxes_far (row := none) (only_alloc (only_refl w none) o) hb (by simp) h

set_option maxHeartbeats 4000000 in
theorem insert_any (A : Option Addr) (c : Nat) (l : List Rg.Sn) (s : Rg.Sn) (B : Nat) (w : World) (hr : Rd w B 3 A l.length (spans l)) (hBw : B ≤ w.heap.size) (hl : l.length ≤ 1000000000) (hc : l.length ≤ c) (hcm : c ≤ maxLen) (ha : Rg.Asc (-1) l) :
    Calls Try.prog 27 #[.slice A l.length c, .agg #[.int .i64 s.f, .int .i64 s.t, .int .i64 s.v]] w (RetSp (Rg.insert l s) w) := by
  have HR := Lib.hid hr; clear hr
  have HA := Lib.hid ha; clear ha
  have hb0 : Below w.heap.size w ((w.alloc (.cells #[.slice A l.length c] 23)).alloc (.cells #[.int .i64 s.f, .int .i64 s.t, .int .i64 s.v] 25)) := ((Below.refl _ _).alloc (Nat.le_refl _) _).alloc (by simp) _
  have HB0 := Lib.hid hb0; clear hb0
  have k0 := box_first w (.slice A l.length c) 23 (.cells #[.int .i64 s.f, .int .i64 s.t, .int .i64 s.v] 25)
  have hbk := Bk.new (w.alloc (.cells #[.slice A l.length c] 23)) 25 #[.int .i64 s.f, .int .i64 s.t, .int .i64 s.v]
  rw [World.size_alloc] at hbk
  have hsz0 : ((w.alloc (.cells #[.slice A l.length c] 23)).alloc (.cells #[.int .i64 s.f, .int .i64 s.t, .int .i64 s.v] 25)).heap.size = w.heap.size + 1 + 1 := by simp
  go_enter Try.func27, Try.ntmps27
  go_wp2_with fail
  generalize hw1 : (w.alloc (.cells #[.slice A l.length c] 23)).alloc (.cells #[.int .i64 s.f, .int .i64 s.t, .int .i64 s.v] 25) = w1 at *
  clear hw1
  have HK0 := Lib.hid k0; have HBK := Lib.hid hbk; have HSZ := Lib.hid hsz0
  have hw1 : w.heap.size + 2 ≤ w1.heap.size := by omega
  clear k0 hbk hsz0
  have hse := search_any 40 #[.pointer (some ⟨w.heap.size, 0, none⟩), .pointer (some ⟨w.heap.size + 1, 0, none⟩)] l.length (fun i => decide (s.t < (l.getD i Rg.d0).f)) w1
    (enters_of Try.func40 (by kernel_rfl) rfl) (by omega)
    (fun W i hi hb => by
      obtain ⟨b, off, u, rfl, hbB, hs, h1, h2, h3⟩ := spans_cell (HR.out.below (HB0.out.mono hBw)) hi
      show Calls Try.prog _ _ W _
      rw [Rg.getD_of hs]
      exact insert_clo w.heap.size (w.heap.size + 1) b off l.length c s.f s.t s.v u.f i W hi (by omega) ((hb.cell (p := ⟨w.heap.size, 0, none⟩) (by show w.heap.size < w1.heap.size; omega)).trans HK0.out) ((hb.cell (p := ⟨w.heap.size + 1, 1, none⟩) (by show w.heap.size + 1 < w1.heap.size; omega)).trans ((HBK.out.cell 1).trans rfl))
        ((hb.cell (p := ⟨b, off + i * 3, none⟩) (by show b < w1.heap.size; omega)).trans h1))
    (fun a b hab hb hp => Rg.mono_f HA.out s.t a b hab hb hp)
  rw [Rg.range_countP l Rg.d0 (fun u => !decide (s.t < u.f)), Rg.place_count HA.out s.t] at hse
  refine hse.mono ?_
  clear hse
  rintro e w2 ⟨rfl, hb2⟩
  have hple := Rg.place_le l s.t
  have hins : Rg.insert l s = l.take (Rg.place l s.t) ++ [s] ++ l.drop (Rg.place l s.t) := rfl
  generalize hk : Rg.place l s.t = k at *
  have HIN := Lib.hid hins
  clear hk hins
  have hsz2 := hb2.size
  have d0 := (hb2.cell (p := ⟨w.heap.size, 0, none⟩) (by show w.heap.size < w1.heap.size; omega)).trans HK0.out
  have HBK2 := Lib.hid (HBK.out.below hb2 (by omega))
  have HB2 := Lib.hid (HB0.out.trans (hb2.mono (by omega)))
  have HR2 := Lib.hid (HR.out.below (HB2.out.mono hBw))
  clear hb2 HK0 HBK HB0
  generalize hn : l.length = n at *
  have HN := Lib.hid hn
  clear hn
  have hkn : (k : Int) ≤ (n : Int) := by omega
  have hkc : (k : Int) ≤ (c : Int) := by omega
  unfold maxLen at hcm
  go_wp2_with (at_builtin; refine app_span (by rfl) _ _ rfl (base := w.heap.size) rfl (show w2.ownsRow w.heap.size 25 3 (.slice none 0 0) 0 (spans []) from World.ownsRow_nil _ _ _ _) rfl (rd_take HR2.out hple) (by omega) (by omega) ?_)
  intro A3 c3 w3 ho3 hg3 hc3
  have hne : ∀ q, (Value.slice A3 k c3).ownBlock = some q → w2.heap.size ≤ q := by
    intro q hq
    rcases hc3 with h | h
    · rw [h] at hq; simp [Value.ownBlock] at hq
    · rw [h] at hq; injection hq with hq; omega
  have hsz3 := hg3.size
  have hg3' : w2.grownBy w3 none := hg3
  have HB3 := Lib.hid (HB2.out.grown hg3' (by omega) (fun q hq => by cases hq))
  have HR3 := Lib.hid (HR.out.below (HB3.out.mono hBw))
  have d3 := cell_far hg3' (by omega) (by simp) d0
  have hbk3 := HBK2.out.grown hg3' (by simp)
  have e0 : w3.cell? ⟨w.heap.size + 1, 0, none⟩ = some (.int .i64 s.f) := (hbk3.cell 0).trans rfl
  have e1 : w3.cell? ⟨w.heap.size + 1, 1, none⟩ = some (.int .i64 s.t) := (hbk3.cell 1).trans rfl
  have e2 : w3.cell? ⟨w.heap.size + 1, 2, none⟩ = some (.int .i64 s.v) := (hbk3.cell 2).trans rfl
  have HO3 := Lib.hid ho3
  have HNE := Lib.hid hne
  have hw3 : w.heap.size + 1 < w3.heap.size := by omega
  have hsl := run_slice_from A n c k (by omega) (by omega)
  clear d0 hg3 hg3' ho3 hc3 hne hbk3 HBK2 HB2 HR2
  have HS3 := Lib.hid (show w3.cell? ⟨w.heap.size, 0, none⟩ = some (.slice A n c) ∧ w3.cell? ⟨w.heap.size + 1, 0, none⟩ = some (.int .i64 s.f) ∧ w3.cell? ⟨w.heap.size + 1, 1, none⟩ = some (.int .i64 s.t) ∧ w3.cell? ⟨w.heap.size + 1, 2, none⟩ = some (.int .i64 s.v) from ⟨d3, e0, e1, e2⟩)
  go_wp2_with fail
  go_region_held3 (fun w' => w'.cell? ⟨w.heap.size, 0, none⟩ = some (.slice A n c) ∧ w'.cell? ⟨w.heap.size + 1, 0, none⟩ = some (.int .i64 s.f) ∧ w'.cell? ⟨w.heap.size + 1, 1, none⟩ = some (.int .i64 s.t) ∧ w'.cell? ⟨w.heap.size + 1, 2, none⟩ = some (.int .i64 s.v))
    (first
      | go_keep
      | exact HS5.out
      | exact HS4.out)
    (first
      | (refine step_app_span (by rfl) (.tmp 15) (.tmp 17) (by rfl) (base := w.heap.size) (by rfl) ((HO3.out.alloc _).drew) (by rfl) ((rd_one_span_at (w := w3) rfl s).drew) (by omega) (by simp; omega) ?_; intro A4 c4 w4 ho4 hg4 hc4; have HS4 := Lib.hid (boxes_far hg4 (by simp; omega) (fun q hq e => by have := HNE.out q e; omega) (boxes_alloc (.cells #[.int .i64 s.f, .int .i64 s.t, .int .i64 s.v] 25) (by omega) HS3.out)))
      | (refine step_app_span (by rfl) (.tmp 18) (.tmp 21) (by rfl) (base := w.heap.size) (by rfl) ho4 (by rfl) (rd_dropA ((HR3.out.alloc (by omega) _).drew.grown hg4 (by simp; omega) (fun q hq => by have := HNE.out q hq; omega)) (by omega) (by omega)) (by omega) (by have := hg4.size; simp at this; omega) ?_; intro A5 c5 w5 ho5 hg5 hc5; have HS5 := Lib.hid (boxes_far hg5 (by have := hg4.size; simp at this; omega) (fun q hq e => by (rcases hc4 with h | h); (rw [h] at e; have := HNE.out q e; omega); (rw [h] at e; injection e with e; simp at e; omega)) HS4.out)))
  have hbA := ((HB3.out.alloc (by omega) (.cells #[.int .i64 s.f, .int .i64 s.t, .int .i64 s.v] 25)).drew).grown hg4 (by simp; omega) (fun q hq => by have := HNE.out q hq; omega)
  have hbB := hbA.grown hg5 (by have := hg4.size; simp at this; omega) (fun q hq => by
    rcases hc4 with h | h
    · rw [h] at hq; have := HNE.out q hq; omega
    · rw [h] at hq; injection hq with hq; simp at hq; omega)
  have HBB := Lib.hid hbB
  have HO5 := Lib.hid ho5
  have hlen : (Rg.insert l s).length = k + 1 + (n - k) := by rw [HIN.out]; have := HN.out; simp; omega
  have HL := Lib.hid hlen
  clear hbA hbB ho5 hlen hg4 hg5 hc4 hc5 ho4
  go_wp2
  go_ret
  unfold RetSp
  rw [HL.out, HIN.out]
  exact ⟨A5, c5, rfl, HO5.out, HBB.out⟩
end Go.Proofs.Ythdfhijahkfjdaa
