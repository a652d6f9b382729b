/- A slice of slices of numbers that came in, with the bound on its bulk. -/
import Derived.Test.YtddlafcnfdohnaaDoorUpto
import Derived.Test.YtddlafcnfdohnaaDoorRws
import Derived.Test.YtddlafcnfdohnaaDoorSpMath
import Derived.Lib.SmallJoins
namespace Go.Proofs.YtddlafcnfdohnaaDoor.bulks
open Go Go.RowKit Go.ChangeShapes Go.WideShapes Go.ChangeAt
set_option linter.unusedVariables false
theorem len_up1 {H : Type} {enc : TypeId × Value → H} {P : Program} {w : World} {t e : TypeId} {a : Option Addr} {len cap : Nat} {d : DataW H} {p : List MemPlace}
    (ht : P.underlying t = some (.slice e)) (h : DataW.Trod enc P w 0 (fun _ => true) true t (.slice a len cap) d p) : len + 1 ≤ Rows.uptoBulk d := by
  obtain ⟨fuel, hf⟩ := h
  rcases DataW.trod_slice ht hf with ⟨hcs, hx⟩ | ⟨x, l, c, elems, rest, n, _, hcs, hx, _, _, _, hlen, _⟩
  · simp only [Value.cells, List.cons.injEq, Value.slice.injEq, and_true] at hcs
    injection hx with hd _
    rw [hd]; simp only [Rows.uptoBulk]; omega
  · simp only [Value.cells, List.cons.injEq, Value.slice.injEq, and_true] at hcs
    injection hx with hd _
    rw [hd]
    have := length_le (elems.map (·.1))
    rw [List.length_map] at this
    simp only [Rows.uptoBulk]
    omega
/-- One list for each element. -/
theorem pick_rows {α : Type} {H : Type} (bk : α → DataW H) (Q : Nat → List Int → Prop) : ∀ (l : List α) (k : Nat), (∀ i y, l[i]? = some y → ∃ ys, Q (k + i) ys ∧ ys.length + 1 ≤ Rows.uptoBulk (bk y)) →
    ∃ yss : List (List Int), yss.length = l.length ∧ (∀ i ys, yss[i]? = some ys → Q (k + i) ys) ∧ Sp.total yss ≤ Rows.uptoBulkAll (l.map bk)
  | [], k, _ => ⟨[], rfl, fun i ys h => by simp at h, by simp [Sp.total]⟩
  | y :: r, k, h => by
    obtain ⟨ys, hq, hb⟩ := h 0 y rfl
    obtain ⟨yss, h1, h2, h3⟩ := pick_rows bk Q r (k + 1) (fun i z hz => by
      have := h (i + 1) z (by simpa using hz)
      rwa [show k + 1 + i = k + (i + 1) by omega])
    refine ⟨ys :: yss, by simp [h1], fun i zs hz => ?_, ?_⟩
    · cases i with
      | zero => simp at hz; subst hz; exact hq
      | succ i =>
        have := h2 i zs (by simpa using hz)
        rwa [show k + 1 + i = k + (i + 1) by omega] at this
    · simp only [List.map_cons, Rows.uptoBulkAll]
      unfold Sp.total at h3 ⊢
      simp only [List.map_cons, List.sum_cons]
      omega
theorem rd_rows_up {H : Type} {enc : TypeId × Value → H} {P : Program} {w : World} {t e g : TypeId} {a : Option Addr} {len cap : Nat} {d : DataW H} {p : List MemPlace}
    (ht : P.underlying t = some (.slice e)) (he : P.underlying e = some (.slice g)) (hg : P.underlying g = some (.int .i64)) (hc : P.cellsOf e = 1) (hcg : P.cellsOf g = 1)
    (h : DataW.Trod enc P w 0 (fun _ => true) true t (.slice a len cap) d p) :
    ∃ yss : List (List Int), len = yss.length ∧ RdR w w.heap.size a yss ∧ Sp.total yss + 1 ≤ Rows.uptoBulk d := by
  obtain ⟨fuel, hf⟩ := h
  rcases DataW.trod_slice ht hf with ⟨hcs, hx⟩ | ⟨x, l, c, elems, rest, n, _, hcs, hx, _, _, _, hlen, hel, _⟩
  · simp only [Value.cells, List.cons.injEq, Value.slice.injEq, and_true] at hcs
    obtain ⟨rfl, rfl, rfl⟩ := hcs
    injection hx with hd _
    refine ⟨[], rfl, ⟨[], Rd.nil_ _ _ _ _, fun i ys h => by simp at h⟩, ?_⟩
    rw [hd]; simp [Rows.uptoBulk, Sp.total]
  · simp only [Value.cells, List.cons.injEq, Value.slice.injEq, and_true] at hcs
    obtain ⟨rfl, rfl, rfl⟩ := hcs
    have each : ∀ i y, elems[i]? = some y → ∃ ys : List Int, (∃ A' c', w.cell? (x.add i) = some (.slice A' ys.length c') ∧ Rd w w.heap.size 1 A' ys.length (ints ys)) ∧ ys.length + 1 ≤ Rows.uptoBulk y.1 := by
      intro i y hy
      have hil := (List.getElem?_eq_some_iff.1 hy).1
      have hb := hel i (by omega)
      rw [hy, hc, Nat.mul_one, Option.bind_eq_some_iff] at hb
      obtain ⟨cs', hcs', hy'⟩ := hb
      obtain ⟨a', l', c', hs⟩ := Go.Joins.slice_form he hy'
      subst hs
      have hcell := cell_of_cells?_one hcs'
      have hT : DataW.Trod enc P w 0 (fun _ => true) true e (.slice a' l' c') y.1 y.2 := ⟨n, hy'⟩
      have hbk := len_up1 he hT
      obtain ⟨ys, rfl, hr, _, _⟩ := rd_ints he hg hcg hT
      exact ⟨ys, ⟨a', c', hcell, hr⟩, hbk⟩
    obtain ⟨yss, h1, h2, h3⟩ := pick_rows (fun y : DataW H × List MemPlace => y.1) (fun i ys => ∃ A' c', w.cell? (x.add i) = some (.slice A' ys.length c') ∧ Rd w w.heap.size 1 A' ys.length (ints ys)) elems 0 (fun i y hy => by
      rw [Nat.zero_add]; exact each i y hy)
    have hly : yss.length = len := by omega
    refine ⟨yss, hly.symm, ?_, ?_⟩
    · refine ⟨(List.range yss.length).map (fun i => (w.cell? (x.add i)).getD undef), ?_, fun i ys hi => ?_⟩
      · refine rd_of_cells (fun i => (w.cell? (x.add i)).getD undef) (fun i hi => ?_)
        obtain ⟨A', c', hA, _⟩ := h2 i yss[i] (List.getElem?_eq_getElem hi)
        rw [Nat.zero_add] at hA
        simp only [hA, Option.getD_some]
      · obtain ⟨A', c', hA, hr⟩ := h2 i ys hi
        rw [Nat.zero_add] at hA
        have hil := (List.getElem?_eq_some_iff.1 hi).1
        refine ⟨A', c', ?_, hr⟩
        rw [List.getElem?_map, List.getElem?_range hil]
        simp only [Option.map_some, hA, Option.getD_some]
    · injection hx with hd _
      rw [hd]
      simp only [Rows.uptoBulk]
      omega
end Go.Proofs.YtddlafcnfdohnaaDoor.bulks
