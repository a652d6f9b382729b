/- The small functions of layer 27 and of its reference: plain, hex, Timed, ttl. -/
import Derived.Test.YtgidnkodgdoijaaProg
import Derived.Test.YtgidnkodgdoijaaRqMath
import Derived.Shelf.Small.Strs
namespace Go.Proofs.Ytgidnkodgdoijaa
open Go Go.RowKit Go.Proofs
set_option linter.unusedVariables false

def ixb_ren : Go.Shelf.Ren := ⟨fun | 137 => 31 | 217 => 34 | 266 => 36 | n => n,
  fun | 3 => 3 | 5 => 5 | 9 => 9 | n => n, fun | n => n⟩
theorem ixb_lays : Lays.n137 Try.prog ixb_ren := {
  mixed := by kernel_rfl
  f137 := Try.func31.trans (congrArg some (by kernel_rfl))
  f217 := Try.func34.trans (congrArg some (by kernel_rfl))
  f266 := Try.func36.trans (congrArg some (by kernel_rfl))
  t3 := Try.underlying3
  a3 := Try.isAgg3
  z3 := Try.sizeOf3
  v3 := Try.zeroValue3
  t5 := Try.underlying5
  a5 := Try.isAgg5
  z5 := Try.sizeOf5
  v5 := Try.zeroValue5
  t9 := Try.underlying9
  a9 := Try.isAgg9
  z9 := Try.sizeOf9
  v9 := Try.zeroValue9 }

theorem pl_false {b : UInt8} (h : ¬ (33 ≤ b.toNat ∧ b.toNat ≤ 126 ∧ b.toNat ≠ 34 ∧ b.toNat ≠ 37)) : Rq.pl b = false := decide_eq_false h
theorem pl_true {b : UInt8} (h : 33 ≤ b.toNat ∧ b.toNat ≤ 126 ∧ b.toNat ≠ 34 ∧ b.toNat ≠ 37) : Rq.pl b = true := decide_eq_true h
theorem plain_any (b : UInt8) (w : World) : Calls Try.prog 15 #[.int .u8 (b.toNat : Int)] w fun e w' => e = .returned (.bool (Rq.pl b)) ∧ w' = w := by
  have h : ((b.toNat : Int) < 33 ∧ Rq.pl b = false) ∨ ((33 ≤ (b.toNat : Int) ∧ 126 < (b.toNat : Int)) ∧ Rq.pl b = false) ∨ ((b.toNat : Int) = 34 ∧ Rq.pl b = false) ∨ ((b.toNat : Int) = 37 ∧ Rq.pl b = false) ∨
      ((33 ≤ (b.toNat : Int) ∧ (b.toNat : Int) ≤ 126 ∧ (b.toNat : Int) ≠ 34 ∧ (b.toNat : Int) ≠ 37) ∧ Rq.pl b = true) := by
    by_cases h : 33 ≤ b.toNat ∧ b.toNat ≤ 126 ∧ b.toNat ≠ 34 ∧ b.toNat ≠ 37
    · right; right; right; right; exact ⟨by omega, pl_true h⟩
    · have hf := pl_false h
      by_cases h1 : b.toNat < 33
      · left; exact ⟨by omega, hf⟩
      by_cases h2 : 126 < b.toNat
      · right; left; exact ⟨by omega, hf⟩
      by_cases h3 : b.toNat = 34
      · right; right; left; exact ⟨by omega, hf⟩
      · right; right; right; left; exact ⟨by omega, hf⟩
  generalize Rq.pl b = p at *
  generalize (b.toNat : Int) = c at *
  rcases h with ⟨h, rfl⟩ | ⟨⟨h1, h2⟩, rfl⟩ | ⟨rfl, rfl⟩ | ⟨rfl, rfl⟩ | ⟨⟨h1, h2, h3, h4⟩, rfl⟩
  all_goals
    go_enter Try.func15, Try.ntmps15
    go_wp2
    go_ret
    first | exact ⟨rfl, rfl⟩ | exact ⟨congrArg (fun b => Ending.returned (.bool b)) (by simp [*]), rfl⟩
theorem rplain_any (b : UInt8) (w : World) : Calls Try.prog 17 #[.int .u8 (b.toNat : Int)] w fun e w' => e = .returned (.bool (Rq.pl b)) ∧ w' = w := by
  have h : ((b.toNat : Int) < 33 ∧ Rq.pl b = false) ∨ ((33 ≤ (b.toNat : Int) ∧ 126 < (b.toNat : Int)) ∧ Rq.pl b = false) ∨ ((b.toNat : Int) = 34 ∧ Rq.pl b = false) ∨ ((b.toNat : Int) = 37 ∧ Rq.pl b = false) ∨
      ((33 ≤ (b.toNat : Int) ∧ (b.toNat : Int) ≤ 126 ∧ (b.toNat : Int) ≠ 34 ∧ (b.toNat : Int) ≠ 37) ∧ Rq.pl b = true) := by
    by_cases h : 33 ≤ b.toNat ∧ b.toNat ≤ 126 ∧ b.toNat ≠ 34 ∧ b.toNat ≠ 37
    · right; right; right; right; exact ⟨by omega, pl_true h⟩
    · have hf := pl_false h
      by_cases h1 : b.toNat < 33
      · left; exact ⟨by omega, hf⟩
      by_cases h2 : 126 < b.toNat
      · right; left; exact ⟨by omega, hf⟩
      by_cases h3 : b.toNat = 34
      · right; right; left; exact ⟨by omega, hf⟩
      · right; right; right; left; exact ⟨by omega, hf⟩
  generalize Rq.pl b = p at *
  generalize (b.toNat : Int) = c at *
  rcases h with ⟨h, rfl⟩ | ⟨⟨h1, h2⟩, rfl⟩ | ⟨rfl, rfl⟩ | ⟨rfl, rfl⟩ | ⟨⟨h1, h2, h3, h4⟩, rfl⟩
  all_goals
    go_enter Try.func17, Try.ntmps17
    go_wp2
    go_ret
    first | exact ⟨rfl, rfl⟩ | exact ⟨congrArg (fun b => Ending.returned (.bool b)) (by simp [*]), rfl⟩
theorem hx_index (b : UInt8) : Lib.indexByte [48, 49, 50, 51, 52, 53, 54, 55, 56, 57, 65, 66, 67, 68, 69, 70] b = Rq.hx b := by
  have : ∀ n : Fin 256, Lib.indexByte [48, 49, 50, 51, 52, 53, 54, 55, 56, 57, 65, 66, 67, 68, 69, 70] (UInt8.ofNat n.val) = Rq.hx (UInt8.ofNat n.val) := by decide +kernel
  have h := this ⟨b.toNat, b.toNat_lt⟩
  simpa using h
theorem hex_any (b : UInt8) (w : World) : Calls Try.prog 16 #[.int .u8 (b.toNat : Int)] w fun e w' => e = .returned (.int .i64 (Rq.hx b)) ∧ w' = w := by
  go_enter Try.func16, Try.ntmps16
  go_wp2_with fail
  refine (Any.strings_IndexByte ixb_lays ⟨#[48, 49, 50, 51, 52, 53, 54, 55, 56, 57, 65, 66, 67, 68, 69, 70]⟩ (b.toNat : Int) _).mono ?_
  rintro e w1 ⟨rfl, rfl⟩
  go_wp2
  go_ret
  refine ⟨?_, rfl⟩
  rw [← hx_index]
  simp
theorem rhex_any (b : UInt8) (w : World) : Calls Try.prog 18 #[.int .u8 (b.toNat : Int)] w fun e w' => e = .returned (.int .i64 (Rq.hx b)) ∧ w' = w := by
  have hb := b.toNat_lt
  have h : (48 ≤ (b.toNat : Int) ∧ (b.toNat : Int) ≤ 57 ∧ Rq.hx b = (b.toNat : Int) - 48) ∨ (65 ≤ (b.toNat : Int) ∧ (b.toNat : Int) ≤ 70 ∧ Rq.hx b = (b.toNat : Int) - 55) ∨ ((b.toNat : Int) < 48 ∧ Rq.hx b = -1) ∨
      (57 < (b.toNat : Int) ∧ (b.toNat : Int) < 65 ∧ Rq.hx b = -1) ∨ (70 < (b.toNat : Int) ∧ Rq.hx b = -1) := by
    unfold Rq.hx; split <;> (try split) <;> omega
  have hb2 : (b.toNat : Int) < 256 := by omega
  have hb0 : 0 ≤ (b.toNat : Int) := by omega
  generalize Rq.hx b = p at *
  generalize (b.toNat : Int) = c at *
  rcases h with ⟨h1, h2, rfl⟩ | ⟨h1, h2, rfl⟩ | ⟨h1, rfl⟩ | ⟨h1, h2, rfl⟩ | ⟨h1, rfl⟩
  all_goals
    go_enter Try.func18, Try.ntmps18
    go_wp2
    go_ret
    exact ⟨ret_int (by omega), rfl⟩
theorem timed_any (c : Int) (w : World) : Calls Try.prog 23 #[.int .i64 c] w fun e w' => e = .returned (.bool (Rq.timed c)) ∧ w' = w := by
  have h : (c = 1 ∧ Rq.timed c = true) ∨ (c = 3 ∧ Rq.timed c = true) ∨ (c ≠ 1 ∧ c ≠ 3 ∧ Rq.timed c = false) := by
    unfold Rq.timed
    by_cases h1 : c = 1
    · left; exact ⟨h1, decide_eq_true (.inl h1)⟩
    · by_cases h3 : c = 3
      · right; left; exact ⟨h3, decide_eq_true (.inr h3)⟩
      · right; right; exact ⟨h1, h3, decide_eq_false (by omega)⟩
  generalize Rq.timed c = p at *
  rcases h with ⟨rfl, rfl⟩ | ⟨rfl, rfl⟩ | ⟨h1, h2, rfl⟩
  all_goals
    go_enter Try.func23, Try.ntmps23
    go_wp2
    go_ret
    first | exact ⟨rfl, rfl⟩ | exact ⟨congrArg (fun b => Ending.returned (.bool b)) (by simp [*]), rfl⟩
theorem rtimed_any (c : Int) (w : World) : Calls Try.prog 29 #[.int .i64 c] w fun e w' => e = .returned (.bool (Rq.timed c)) ∧ w' = w := by
  have h : (c = 1 ∧ Rq.timed c = true) ∨ (c = 3 ∧ Rq.timed c = true) ∨ (c ≠ 1 ∧ c ≠ 3 ∧ Rq.timed c = false) := by
    unfold Rq.timed
    by_cases h1 : c = 1
    · left; exact ⟨h1, decide_eq_true (.inl h1)⟩
    · by_cases h3 : c = 3
      · right; left; exact ⟨h3, decide_eq_true (.inr h3)⟩
      · right; right; exact ⟨h1, h3, decide_eq_false (by omega)⟩
  generalize Rq.timed c = p at *
  rcases h with ⟨rfl, rfl⟩ | ⟨rfl, rfl⟩ | ⟨h1, h2, rfl⟩
  all_goals
    go_enter Try.func29, Try.ntmps29
    go_wp2
    go_ret
    first | exact ⟨rfl, rfl⟩ | exact ⟨congrArg (fun b => Ending.returned (.bool b)) (by simp [*]), rfl⟩
theorem ttl_any (c n : Int) (w : World) : Calls Try.prog 25 #[.int .i64 c, .int .i64 n] w fun e w' => e = .returned (.bool (Rq.ttl c n)) ∧ w' = w := by
  have HT := Lib.hid (timed_any c)
  have h : (Rq.timed c = true ∧ n < 1 ∧ Rq.ttl c n = false) ∨ (Rq.timed c = true ∧ 1 ≤ n ∧ n ≤ 1073741824 ∧ Rq.ttl c n = true) ∨ (Rq.timed c = true ∧ 1073741824 < n ∧ Rq.ttl c n = false) ∨
      (Rq.timed c = false ∧ n = 0 ∧ Rq.ttl c n = true) ∨ (Rq.timed c = false ∧ n ≠ 0 ∧ Rq.ttl c n = false) := by
    unfold Rq.ttl
    cases Rq.timed c
    · simp; omega
    · simp; omega
  generalize Rq.timed c = p at *
  generalize Rq.ttl c n = q at *
  rcases h with ⟨rfl, h1, rfl⟩ | ⟨rfl, h1, h2, rfl⟩ | ⟨rfl, h1, rfl⟩ | ⟨rfl, rfl, rfl⟩ | ⟨rfl, h1, rfl⟩
  all_goals
    go_enter Try.func25, Try.ntmps25
    go_wp2_with fail
    refine (HT.out _).mono ?_
    rintro e w1 ⟨rfl, rfl⟩
    go_wp2
    go_ret
    first | exact ⟨rfl, rfl⟩ | exact ⟨congrArg (fun b => Ending.returned (.bool b)) (by simp [*]), rfl⟩
end Go.Proofs.Ytgidnkodgdoijaa
