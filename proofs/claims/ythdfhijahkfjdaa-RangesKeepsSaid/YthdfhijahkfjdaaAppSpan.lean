/- Appending spans to a row of the call's own; the walk of ranges.without. -/
import Derived.Test.YthdfhijahkfjdaaAppCore
import Derived.Test.YthdfhijahkfjdaaSpan
import Derived.Deep.RegionWith
namespace Go.Proofs.Ythdfhijahkfjdaa
open Go Go.RowKit
set_option linter.unusedVariables false

theorem info_span : (Try.prog.info? 25).map (fun i => (i.zero, i.size, i.bytes)) = some (some (.agg #[.int .i64 0, .int .i64 0, .int .i64 0]), 3, 24) := by kernel_rfl
theorem spans_one : ∀ (l : List Rg.Sn), ∀ u ∈ spans l, u.oneCell' = true
  | [], u, hu => by cases hu
  | s :: r, u, hu => by
    rcases List.mem_append.1 hu with h | h
    · simp [Rg.Sn.cells3] at h; rcases h with rfl | rfl | rfl <;> rfl
    · exact spans_one r u h
theorem rd_one_span (w : World) (s : Rg.Sn) : Rd (w.alloc (.cells #[.int .i64 s.f, .int .i64 s.t, .int .i64 s.v] 25)) (w.heap.size + 1) 3 (some ⟨w.heap.size, 0, none⟩) 1 (spans [s]) := by
  refine ⟨rfl, fun _ => ⟨w.heap.size, 0, rfl, by omega, fun j u hu => ?_⟩⟩
  rw [(Bk.new w 25 #[.int .i64 s.f, .int .i64 s.t, .int .i64 s.v]).cell, Nat.zero_add]
  simpa [spans, Rg.Sn.cells3] using hu
/-- append(out, ys...) at []Span, out nil or a row of the call's own. -/
theorem app_span {w : World} {ops : Array Oper} {rest : List Oper} {o : Oper} {a : Act} {Q : Exit → Act → World → Prop} (hw : Region.wanted o (yielded ops a.tmps) = true) (s x : Operand)
    (ho : o.op = .call { callee := .builtin .append, args := #[s, x], argTypes := #[23, 23] })
    {base : Nat} {v : Value} {n : Nat} {xs : List Rg.Sn} (hs : a.eval s = v) (hown : w.ownsRow base 25 3 v n (spans xs))
    {B : Nat} {A : Option Addr} {m c : Nat} {ys : List Rg.Sn} (hx : a.eval x = .slice A m c) (hr : Rd w B 3 A m (spans ys))
    (hlen : n + m ≤ 5000000000000) (hbase : base ≤ w.heap.size)
    (h : ∀ A' c' w', w'.ownsRow base 25 3 (.slice A' (n + m) c') (n + m) (spans (xs ++ ys)) → w.grownBy w' v.ownBlock →
      ((Value.slice A' (n + m) c').ownBlock = v.ownBlock ∨ (Value.slice A' (n + m) c').ownBlock = some w.heap.size) → wpList Try.prog ops Q rest (a.put o.dst (.slice A' (n + m) c')) w') :
    wpList Try.prog ops Q (o :: rest) a w := by
  obtain ⟨i0, hi, hz0, hz1, hz2⟩ := info_parts info_span
  refine wpList_app hw s x _ ho base _ i0 (.agg #[.int .i64 0, .int .i64 0, .int .i64 0]) 3 24 Try.underlying23 hi hz0 hz1 hz2 rfl (by decide) v n (spans xs) hs hown B A m c (spans ys) hx hr (spans_one ys)
    (by unfold maxLen; omega) (by omega) hbase ?_
  intro v' w' h2 h3 h4
  obtain ⟨A', c', rfl⟩ := own_form h2
  rw [← spans_append] at h2
  exact h A' c' w' h2 h3 h4
/-- The call returns a new slice of spans; all that was there is as it was. -/
def RetSp (l : List Rg.Sn) (w : World) (e : Ending) (w' : World) : Prop :=
  ∃ A c, e = .returned (.slice A l.length c) ∧ w'.ownsRow w.heap.size 25 3 (.slice A l.length c) l.length (spans l) ∧ Below w.heap.size w w'
end Go.Proofs.Ythdfhijahkfjdaa
