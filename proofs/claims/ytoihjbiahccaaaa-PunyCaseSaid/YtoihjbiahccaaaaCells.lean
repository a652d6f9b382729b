/- A slice of numbers or strings, element by element. No program in sight. -/
import Derived.Test.YtoihjbiahccaaaaBase
namespace Go.Proofs.Ytoihjbiahccaaaa
open Go Go.RowKit
set_option linter.unusedVariables false
/-- The call returns a truth value; the world is as it was, but for draws. -/
def RetB (b : Bool) (w : World) (e : Ending) (w' : World) : Prop := e = .returned (.bool b) ∧ ∃ m, w' = w.drewN m
/-- Element k of a slice of numbers, as a cell. -/
theorem ints_cell {w : World} {B n : Nat} {A : Option Addr} {xs : List Int} (h : Rd w B 1 A n (ints xs)) {k : Nat} (hk : k < n) :
    ∃ b off c, A = some ⟨b, off, none⟩ ∧ b < B ∧ xs[k]? = some c ∧ w.cell? ⟨b, off + k, none⟩ = some (.int .i64 c) := by
  obtain ⟨b, off, u, hA, hb, hu, hc⟩ := h.at_ hk
  rw [ints_at] at hu
  obtain ⟨c, hc1, rfl⟩ := Option.map_eq_some_iff.1 hu
  exact ⟨b, off, c, hA, hb, hc1, hc⟩
end Go.Proofs.Ytoihjbiahccaaaa
