/- An argument that is a request, opened. -/
import Derived.Test.YtgidnkodgdoijaaDoorUpto
import Derived.Lib.SmallJoins
namespace Go.Proofs.YtgidnkodgdoijaaDoor.bulks
open Go Go.RowKit Go.ChangeShapes Go.WideShapes Go.ChangeAt
set_option linter.unusedVariables false
theorem open_req {H : Type} {enc : TypeId × Value → H} {w : World} {base : Nat} {v : Value} {d : DataW H} {p : List MemPlace} (hv : Value.okWide Tryd.prog w .any base 35 v)
    (h : DataW.Trod enc Tryd.prog w 0 (fun _ => true) true 35 v d p) :
    ∃ (o t : Int) (A : Option Addr) (c : Nat) (xs : List ByteArray), v = .agg #[.int .i64 o, .int .i64 t, .slice A xs.length c] ∧ Rd w w.heap.size 1 A xs.length (Go.Proofs.YtgidnkodgdoijaaDoor.strs xs) ∧ xs.length ≤ Rows.uptoBulk d ∧ (∀ s ∈ xs, s.size ≤ Rows.uptoBulk d) := by
  obtain ⟨z0, z1, z2, y0, y1, y2, n, rfl, rfl, rfl, g0, g1, g2⟩ := Go.Joins.open_agg3 Tryd.underlying35 (by kernel_rfl) (by kernel_rfl) hv h
  obtain ⟨o, ho, _, _⟩ := DataW.trod_int Tryd.underlying3 g0
  obtain ⟨t, ht, _, _⟩ := DataW.trod_int Tryd.underlying3 g1
  obtain ⟨a, l, c, hs⟩ := Go.Joins.slice_form Tryd.underlying33 g2
  injection ho with ho _; injection ht with ht _; injection hs with hs _
  subst ho; subst ht; subst hs
  have h2 : DataW.Trod enc Tryd.prog w 0 (fun _ => true) true 33 (.slice a l c) y2.1 y2.2 := ⟨n, g2⟩
  have hl := len_up Tryd.underlying33 h2
  obtain ⟨xs, rfl, hr, _, _, hx⟩ := rd_strings_up Tryd.underlying33 Tryd.underlying9 (by kernel_rfl) h2
  have hb : Rows.uptoBulk y2.1 ≤ Rows.uptoBulk (.agg [y0.1, y1.1, y2.1]) := by
    have := part_le (d := y2.1) (l := [y0.1, y1.1, y2.1]) (by simp)
    simp only [Rows.uptoBulk] at this ⊢; omega
  exact ⟨o, t, a, c, xs, rfl, hr, Nat.le_trans hl hb, fun s hs => Nat.le_trans (hx s hs) hb⟩
end Go.Proofs.YtgidnkodgdoijaaDoor.bulks
