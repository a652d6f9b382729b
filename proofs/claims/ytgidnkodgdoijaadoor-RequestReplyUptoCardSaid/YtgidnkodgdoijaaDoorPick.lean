/- The walk of keep.Pick: it returns the arithmetic 'Kp.pick'. -/
import Derived.Test.YtgidnkodgdoijaaDoorProg
import Derived.Test.YtgidnkodgdoijaaDoorBase
import Derived.Test.YtgidnkodgdoijaaDoorKpMath
namespace Go.Proofs.YtgidnkodgdoijaaDoor
open Go Go.RowKit

theorem pick_eq (v n : Int) (h1 : 1 ≤ n) (h2 : n ≤ 9223372036854775807) : wrap64 ((IntKind.u64.wrap v).tmod n) = Kp.pick v n := by
  rw [IntKind.wrap_u64]
  have h0 : 0 ≤ v % 18446744073709551616 := by omega
  rw [Int.tmod_eq_emod_of_nonneg h0]
  have hlo := Kp.pick_lo v n h1
  have hhi := Kp.pick_hi v n h1
  unfold Kp.pick at *
  exact IntWalk.wrap64_in _ ⟨by omega, by omega⟩

set_option maxHeartbeats 400000 in
theorem pick_any (v n : Int) (h1 : 1 ≤ n) (h2 : n ≤ 9223372036854775807) (w : World) :
    Calls Tryd.prog 7 #[.int .i64 v, .int .i64 n] w fun e w' => e = .returned (.int .i64 (Kp.pick v n)) ∧ w = w' := by
  go_enter Tryd.func7, Tryd.ntmps7
  go_wp2
  go_ret
  exact ⟨by rw [← pick_eq v n h1 h2]; rfl, rfl⟩
end Go.Proofs.YtgidnkodgdoijaaDoor
