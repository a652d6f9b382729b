/- The walks of keep.SameRequest and of the chapter's awake. -/
import Derived.Test.YtddieenjdaociaaGreatDoorRqAZ
import Derived.Test.YtddieenjdaociaaGreatDoorSmSZ
namespace Go.Proofs.YtddieenjdaociaaGreatDoor
open Go Go.RowKit
set_option linter.unusedVariables false

theorem own_len {w : World} {base : Nat} {e : TypeId} {size n c : Nat} {A : Option Addr} {xs : List Value} (h : w.ownsRow base e size (.slice A n c) n xs) : n ≤ maxLen := by
  rcases h.2 with ⟨_, h0⟩ | ⟨g, cap, cur, hv, hbg, hh, hnc, hcm, hcs, htk⟩
  · omega
  · omega
theorem rd_two_str {w : World} {z : Nat} (hz : w.heap.size = z) (x y : ByteArray) : Rd (w.alloc (.cells #[.string x, .string y] 9)) (z + 1) 1 (some ⟨z, 0, none⟩) 2 (strs [x, y]) := by
  subst hz
  have := Rd.of_own (own_built w 0 9 #[.string x, .string y] 2 rfl (by decide) (Nat.zero_le _))
  simpa [strs] using this
theorem ex1 : Rq.parse (lst ⟨#[72, 79, 76, 68, 32, 49, 48, 32, 98, 37, 67, 51, 37, 66, 67, 99, 104, 101, 114, 32, 34, 34]⟩) = ⟨1, 10, [[98, 195, 188, 99, 104, 101, 114], []], 0⟩ := by kernel_rfl
theorem ex2 : Rq.parse (lst ⟨#[72, 79, 76, 68, 32, 48, 49, 48, 32, 97]⟩) = ⟨0, 0, [], 4⟩ := by kernel_rfl
end Go.Proofs.YtddieenjdaociaaGreatDoor
