/- A slice of strings, element by element. -/
import Derived.Test.YtddlafcnfdohnaaSame
import Derived.Laws.Strings
namespace Go.Proofs.Ytddlafcnfdohnaa
open Go Go.RowKit
set_option linter.unusedVariables false

/-- Element k of a slice of strings, as a cell. -/
theorem strs_cell {w : World} {B n : Nat} {A : Option Addr} {xs : List ByteArray} (h : Rd w B 1 A n (strs xs)) {k : Nat} (hk : k < n) :
    ∃ b off c, A = some ⟨b, off, none⟩ ∧ b < B ∧ xs[k]? = some c ∧ w.cell? ⟨b, off + k, none⟩ = some (.string c) := by
  obtain ⟨b, off, u, hA, hb, hu, hc⟩ := h.at_ hk
  rw [strs_at] at hu
  obtain ⟨c, hc1, rfl⟩ := Option.map_eq_some_iff.1 hu
  exact ⟨b, off, c, hA, hb, hc1, hc⟩

end Go.Proofs.Ytddlafcnfdohnaa
