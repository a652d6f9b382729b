/- A slice of spans that came in, as a list. -/
import Derived.Test.YthdfhijahkfjdaaFrame
import Derived.Test.YthdfhijahkfjdaaSpan
import Derived.Deep.Strs
namespace Go.Proofs.Ythdfhijahkfjdaa
open Go Go.RowKit Go.ChangeShapes Go.WideShapes Go.ChangeAt
set_option linter.unusedVariables false
theorem rd_spans {H : Type} {enc : TypeId × Value → H} {w : World} {a : Option Addr} {len cap : Nat} {d : DataW H} {p : List MemPlace}
    (h : DataW.Trod enc Try.prog w 0 (fun _ => true) true 23 (.slice a len cap) d p) :
    ∃ xs : List Rg.Sn, len = xs.length ∧ Rd w w.heap.size 3 a xs.length (spans xs) ∧ xs.length ≤ maxLen ∧ True := by
  obtain ⟨fuel, hf⟩ := h
  have ce : Try.prog.cellsOf 25 = 3 := by kernel_rfl
  have ci : Try.prog.cellsOf 3 = 1 := by kernel_rfl
  rcases Go.Deep.open_slice Try.underlying23 hf with ⟨hcs, _⟩ | ⟨x, l, c, m, n, D, Pl, hcs, _, hl, hm, hmm, _, hx⟩
  · simp only [Value.cells, List.cons.injEq, Value.slice.injEq, and_true] at hcs
    obtain ⟨rfl, rfl, rfl⟩ := hcs
    exact ⟨[], rfl, Rd.nil_ _ _ _ _, by simp, trivial⟩
  · simp only [Value.cells, List.cons.injEq, Value.slice.injEq, and_true] at hcs
    obtain ⟨rfl, rfl, rfl⟩ := hcs
    have hlm : len ≤ m := by rw [hmm]; split <;> omega
    have each : ∀ i, i < len → ∃ s : Rg.Sn, w.cell? (x.add (i * 3)) = some (.int .i64 s.f) ∧ w.cell? (x.add (i * 3 + 1)) = some (.int .i64 s.t) ∧ w.cell? (x.add (i * 3 + 2)) = some (.int .i64 s.v) := by
      intro i hi
      obtain ⟨cs', h1, h2⟩ := hx i (by omega)
      rw [ce] at h1
      obtain ⟨_, hlen, hcell⟩ := World.cells?_some h1
      obtain ⟨y0, y1, y2, k, _, _, g0, g1, g2⟩ := Go.Deep.trod_struct3 Try.underlying25 h2
      match cs', hlen with
      | [v0, v1, v2], _ =>
        simp [ci] at g0 g1 g2
        obtain ⟨z0, e0, _⟩ := DataW.trod_int Try.underlying3 g0
        obtain ⟨z1, e1, _⟩ := DataW.trod_int Try.underlying3 g1
        obtain ⟨z2, e2, _⟩ := DataW.trod_int Try.underlying3 g2
        have c0 := hcell 0 (by omega)
        have c1 := hcell 1 (by omega)
        have c2 := hcell 2 (by omega)
        rw [Go.Deep.add_add] at c0 c1 c2
        simp at e0 e1 e2
        subst e0; subst e1; subst e2
        exact ⟨⟨z0, z1, z2⟩, by simpa using c0, by simpa using c1, by simpa using c2⟩
    have hxs : ∀ k, k ≤ len → ∃ xs : List Rg.Sn, xs.length = k ∧ ∀ i s, xs[i]? = some s → w.cell? (x.add (i * 3)) = some (.int .i64 s.f) ∧ w.cell? (x.add (i * 3 + 1)) = some (.int .i64 s.t) ∧ w.cell? (x.add (i * 3 + 2)) = some (.int .i64 s.v) := by
      intro k
      induction k with
      | zero => intro _; exact ⟨[], rfl, fun i s h => by simp at h⟩
      | succ k ih =>
        intro hk
        obtain ⟨xs, h1, h2⟩ := ih (by omega)
        obtain ⟨s, hs⟩ := each k (by omega)
        refine ⟨xs ++ [s], by simp [h1], fun i u hu => ?_⟩
        by_cases hi : i < k
        · rw [List.getElem?_append_left (by omega)] at hu; exact h2 i u hu
        · have hi' := (List.getElem?_eq_some_iff.1 hu).1
          simp at hi'
          have : i = k := by omega
          subst this
          rw [List.getElem?_append_right (by omega), h1] at hu
          simp at hu; subst hu; exact hs
    obtain ⟨xs, h1, h2⟩ := hxs len (Nat.le_refl _)
    refine ⟨xs, h1.symm, ⟨by rw [spans_length], fun h0 => ?_⟩, by omega, trivial⟩
    rw [spans_length] at h0
    obtain ⟨b, off, spot⟩ := x
    have h00 := (h2 0 (xs[0]'(by omega)) (List.getElem?_eq_getElem _)).1
    have hb0 : w.cell? ⟨b, off, spot⟩ = some (.int .i64 (xs[0]'(by omega)).f) := by simpa [Addr.add] using h00
    have hs : spot = none := by simpa using World.cell?_spot hb0
    subst hs
    refine ⟨b, off, rfl, World.block_lt_of_cell? w _ hb0, fun j u hu => ?_⟩
    have hj : j < xs.length * 3 := by have := (List.getElem?_eq_some_iff.1 hu).1; rwa [spans_length] at this
    have hi : j / 3 < xs.length := by omega
    obtain ⟨a1, a2, a3⟩ := h2 (j / 3) (xs[j / 3]'hi) (List.getElem?_eq_getElem _)
    obtain ⟨b1, b2, b3⟩ := spans_at xs (j / 3) (xs[j / 3]'hi) (List.getElem?_eq_getElem _)
    rw [add_plain] at a1 a2 a3
    have hjr : j = j / 3 * 3 ∨ j = j / 3 * 3 + 1 ∨ j = j / 3 * 3 + 2 := by omega
    rcases hjr with e | e | e
    · rw [e] at hu ⊢; rw [b1] at hu; injection hu with hu; subst hu; exact a1
    · rw [e] at hu ⊢; rw [b2] at hu; injection hu with hu; subst hu; exact a2
    · rw [e] at hu ⊢; rw [b3] at hu; injection hu with hu; subst hu; exact a3
end Go.Proofs.Ythdfhijahkfjdaa
