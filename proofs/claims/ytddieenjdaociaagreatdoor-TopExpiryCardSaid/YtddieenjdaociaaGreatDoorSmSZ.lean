/- The walk of keep.Same at string: whether two slices hold the same strings. -/
import Derived.Test.YtddieenjdaociaaGreatDoorProg
import Derived.Test.YtddieenjdaociaaGreatDoorM02
import Derived.Deep.QuietTactic
import Derived.BigQuiet
import Derived.Laws.Strings
namespace Go.Proofs.YtddieenjdaociaaGreatDoor
open Go Go.RowKit
set_option linter.unusedVariables false

/-- The call returns a truth value; the world is as it was, but for draws. -/
def RetB (b : Bool) (w : World) (e : Ending) (w' : World) : Prop := e = .returned (.bool b) ∧ ∃ m, w' = w.drewN m
theorem toList_inj {a b : ByteArray} (h : a.toList = b.toList) : a = b := by
  rw [ByteArray.toList_eq, ByteArray.toList_eq] at h
  exact ByteArray.ext (Array.toList_inj.1 h)
theorem same_len' {xs ys : List ByteArray} (h : xs.length ≠ ys.length) : decide (xs = ys) = false := by
  rw [decide_eq_false_iff_not]; rintro rfl; exact h rfl
theorem same_no' {xs ys : List ByteArray} {k : Nat} (h : xs[k]? ≠ ys[k]?) : decide (xs = ys) = false := by
  rw [decide_eq_false_iff_not]; rintro rfl; exact h rfl
theorem same_yes' {xs ys : List ByteArray} (hl : xs.length = ys.length) (h : ∀ j, j < xs.length → xs[j]? = ys[j]?) : decide (xs = ys) = true := by
  rw [decide_eq_true_iff]
  apply List.ext_getElem? 
  intro j
  by_cases hj : j < xs.length
  · exact h j hj
  · rw [List.getElem?_eq_none (by omega), List.getElem?_eq_none (by omega)]
/-- Element k of a slice of strings, as a cell. -/
theorem strs_cell {w : World} {B n : Nat} {A : Option Addr} {xs : List ByteArray} (h : Rd w B 1 A n (strs xs)) {k : Nat} (hk : k < n) :
    ∃ b off c, A = some ⟨b, off, none⟩ ∧ b < B ∧ xs[k]? = some c ∧ w.cell? ⟨b, off + k, none⟩ = some (.string c) := by
  obtain ⟨b, off, u, hA, hb, hu, hc⟩ := h.at_ hk
  rw [strs_at] at hu
  obtain ⟨c, hc1, rfl⟩ := Option.map_eq_some_iff.1 hu
  exact ⟨b, off, c, hA, hb, hc1, hc⟩

end Go.Proofs.YtddieenjdaociaaGreatDoor
