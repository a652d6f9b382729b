/- The small functions of layer 27 and of its reference: plain, hex, Timed, ttl. -/
import Derived.Test.YtddieenjdaociaaGreatDoorProg
import Derived.Test.YtddieenjdaociaaGreatDoorM02
import Derived.Shelf.Small.Strs
namespace Go.Proofs.YtddieenjdaociaaGreatDoor
open Go Go.RowKit Go.Proofs
set_option linter.unusedVariables false

def ixb_ren : Go.Shelf.Ren := ⟨fun | 137 => 152 | 217 => 173 | 266 => 196 | n => n,
  fun | 3 => 3 | 5 => 5 | 9 => 9 | n => n, fun | n => n⟩
theorem ixb_lays : Lays.n137 Tryz.prog ixb_ren := {
  mixed := by kernel_rfl
  f137 := Tryz.func152.trans (congrArg some (by kernel_rfl))
  f217 := Tryz.func173.trans (congrArg some (by kernel_rfl))
  f266 := Tryz.func196.trans (congrArg some (by kernel_rfl))
  t3 := Tryz.underlying3
  a3 := Tryz.isAgg3
  z3 := Tryz.sizeOf3
  v3 := Tryz.zeroValue3
  t5 := Tryz.underlying5
  a5 := Tryz.isAgg5
  z5 := Tryz.sizeOf5
  v5 := Tryz.zeroValue5
  t9 := Tryz.underlying9
  a9 := Tryz.isAgg9
  z9 := Tryz.sizeOf9
  v9 := Tryz.zeroValue9 }

theorem pl_false {b : UInt8} (h : ¬ (33 ≤ b.toNat ∧ b.toNat ≤ 126 ∧ b.toNat ≠ 34 ∧ b.toNat ≠ 37)) : Rq.pl b = false := decide_eq_false h
theorem pl_true {b : UInt8} (h : 33 ≤ b.toNat ∧ b.toNat ≤ 126 ∧ b.toNat ≠ 34 ∧ b.toNat ≠ 37) : Rq.pl b = true := decide_eq_true h
theorem plain_any (b : UInt8) (w : World) : Calls Tryz.prog 62 #[.int .u8 (b.toNat : Int)] w fun e w' => e = .returned (.bool (Rq.pl b)) ∧ w' = w := by
  have h : ((b.toNat : Int) < 33 ∧ Rq.pl b = false) ∨ ((33 ≤ (b.toNat : Int) ∧ 126 < (b.toNat : Int)) ∧ Rq.pl b = false) ∨ ((b.toNat : Int) = 34 ∧ Rq.pl b = false) ∨ ((b.toNat : Int) = 37 ∧ Rq.pl b = false) ∨
      ((33 ≤ (b.toNat : Int) ∧ (b.toNat : Int) ≤ 126 ∧ (b.toNat : Int) ≠ 34 ∧ (b.toNat : Int) ≠ 37) ∧ Rq.pl b = true) := by
    by_cases h : 33 ≤ b.toNat ∧ b.toNat ≤ 126 ∧ b.toNat ≠ 34 ∧ b.toNat ≠ 37
    · right; right; right; right; exact ⟨by omega, pl_true h⟩
    · have hf := pl_false h
      by_cases h1 : b.toNat < 33
      · left; exact ⟨by omega, hf⟩
      by_cases h2 : 126 < b.toNat
      · right; left; exact ⟨by omega, hf⟩
      by_cases h3 : b.toNat = 34
      · right; right; left; exact ⟨by omega, hf⟩
      · right; right; right; left; exact ⟨by omega, hf⟩
  generalize Rq.pl b = p at *
  generalize (b.toNat : Int) = c at *
  rcases h with ⟨h, rfl⟩ | ⟨⟨h1, h2⟩, rfl⟩ | ⟨rfl, rfl⟩ | ⟨rfl, rfl⟩ | ⟨⟨h1, h2, h3, h4⟩, rfl⟩
  all_goals
    go_enter Tryz.func62, Tryz.ntmps62
    go_wp2
    go_ret
    first | exact ⟨rfl, rfl⟩ | exact ⟨congrArg (fun b => Ending.returned (.bool b)) (by simp [*]), rfl⟩
theorem hx_index (b : UInt8) : Lib.indexByte [48, 49, 50, 51, 52, 53, 54, 55, 56, 57, 65, 66, 67, 68, 69, 70] b = Rq.hx b := by
  have : ∀ n : Fin 256, Lib.indexByte [48, 49, 50, 51, 52, 53, 54, 55, 56, 57, 65, 66, 67, 68, 69, 70] (UInt8.ofNat n.val) = Rq.hx (UInt8.ofNat n.val) := by decide +kernel
  have h := this ⟨b.toNat, b.toNat_lt⟩
  simpa using h
theorem hex_any (b : UInt8) (w : World) : Calls Tryz.prog 133 #[.int .u8 (b.toNat : Int)] w fun e w' => e = .returned (.int .i64 (Rq.hx b)) ∧ w' = w := by
  go_enter Tryz.func133, Tryz.ntmps133
  go_wp2_with fail
  refine (Any.strings_IndexByte ixb_lays ⟨#[48, 49, 50, 51, 52, 53, 54, 55, 56, 57, 65, 66, 67, 68, 69, 70]⟩ (b.toNat : Int) _).mono ?_
  rintro e w1 ⟨rfl, rfl⟩
  go_wp2
  go_ret
  refine ⟨?_, rfl⟩
  rw [← hx_index]
  simp
theorem timed_any (c : Int) (w : World) : Calls Tryz.prog 33 #[.int .i64 c] w fun e w' => e = .returned (.bool (Rq.timed c)) ∧ w' = w := by
  have h : (c = 1 ∧ Rq.timed c = true) ∨ (c = 3 ∧ Rq.timed c = true) ∨ (c ≠ 1 ∧ c ≠ 3 ∧ Rq.timed c = false) := by
    unfold Rq.timed
    by_cases h1 : c = 1
    · left; exact ⟨h1, decide_eq_true (.inl h1)⟩
    · by_cases h3 : c = 3
      · right; left; exact ⟨h3, decide_eq_true (.inr h3)⟩
      · right; right; exact ⟨h1, h3, decide_eq_false (by omega)⟩
  generalize Rq.timed c = p at *
  rcases h with ⟨rfl, rfl⟩ | ⟨rfl, rfl⟩ | ⟨h1, h2, rfl⟩
  all_goals
    go_enter Tryz.func33, Tryz.ntmps33
    go_wp2
    go_ret
    first | exact ⟨rfl, rfl⟩ | exact ⟨congrArg (fun b => Ending.returned (.bool b)) (by simp [*]), rfl⟩
theorem ttl_any (c n : Int) (w : World) : Calls Tryz.prog 31 #[.int .i64 c, .int .i64 n] w fun e w' => e = .returned (.bool (Rq.ttl c n)) ∧ w' = w := by
  have HT := Lib.hid (timed_any c)
  have h : (Rq.timed c = true ∧ n < 1 ∧ Rq.ttl c n = false) ∨ (Rq.timed c = true ∧ 1 ≤ n ∧ n ≤ 1073741824 ∧ Rq.ttl c n = true) ∨ (Rq.timed c = true ∧ 1073741824 < n ∧ Rq.ttl c n = false) ∨
      (Rq.timed c = false ∧ n = 0 ∧ Rq.ttl c n = true) ∨ (Rq.timed c = false ∧ n ≠ 0 ∧ Rq.ttl c n = false) := by
    unfold Rq.ttl
    cases Rq.timed c
    · simp; omega
    · simp; omega
  generalize Rq.timed c = p at *
  generalize Rq.ttl c n = q at *
  rcases h with ⟨rfl, h1, rfl⟩ | ⟨rfl, h1, h2, rfl⟩ | ⟨rfl, h1, rfl⟩ | ⟨rfl, rfl, rfl⟩ | ⟨rfl, h1, rfl⟩
  all_goals
    go_enter Tryz.func31, Tryz.ntmps31
    go_wp2_with fail
    refine (HT.out _).mono ?_
    rintro e w1 ⟨rfl, rfl⟩
    go_wp2
    go_ret
    first | exact ⟨rfl, rfl⟩ | exact ⟨congrArg (fun b => Ending.returned (.bool b)) (by simp [*]), rfl⟩
end Go.Proofs.YtddieenjdaociaaGreatDoor
