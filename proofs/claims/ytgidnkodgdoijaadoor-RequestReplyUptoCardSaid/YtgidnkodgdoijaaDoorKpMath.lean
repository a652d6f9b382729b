/- The numbers that a source of choices gives: plain arithmetic. No program in sight. -/
namespace Go.Proofs.YtgidnkodgdoijaaDoor.Kp
/-- keep.Pick: an arbitrary integer in the range from 0 to n - 1. -/
def pick (v n : Int) : Int := v % 18446744073709551616 % n
theorem pick_lo (v n : Int) (h : 1 ≤ n) : 0 ≤ pick v n := by unfold pick; exact Int.emod_nonneg _ (by omega)
theorem pick_hi (v n : Int) (h : 1 ≤ n) : pick v n < n := by unfold pick; exact Int.emod_lt_of_pos _ (by omega)
/-- A source: the next number from 0 to n - 1, and where it stands then. -/
def nx (xs : List Int) (i : Nat) (n : Int) : Int := match xs[i]? with | some v => pick v n | none => 0
def ad (xs : List Int) (i : Nat) : Nat := if i < xs.length then i + 1 else i
theorem nx_lo (xs : List Int) (i : Nat) (n : Int) (h : 1 ≤ n) : 0 ≤ nx xs i n := by
  unfold nx; split
  · exact pick_lo _ _ h
  · omega
theorem nx_hi (xs : List Int) (i : Nat) (n : Int) (h : 1 ≤ n) : nx xs i n < n := by
  unfold nx; split
  · exact pick_hi _ _ h
  · omega
theorem nx_at (xs : List Int) (i : Nat) (n : Int) (h : i < xs.length) : nx xs i n = pick (xs[i]) n := by
  unfold nx; rw [List.getElem?_eq_getElem h]
theorem nx_end (xs : List Int) (i : Nat) (n : Int) (h : ¬ i < xs.length) : nx xs i n = 0 := by
  unfold nx; rw [List.getElem?_eq_none (by omega)]
theorem ad_le (xs : List Int) (i : Nat) (h : i ≤ xs.length) : ad xs i ≤ xs.length := by unfold ad; split <;> omega
theorem ad_ge (xs : List Int) (i : Nat) : i ≤ ad xs i := by unfold ad; split <;> omega
end Go.Proofs.YtgidnkodgdoijaaDoor.Kp
