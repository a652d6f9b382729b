/- The walks of digit and value, ours and the reference's. -/
import Derived.Test.YtoihjbiahccaaaaPnAd
namespace Go.Proofs.Ytoihjbiahccaaaa
open Go Go.RowKit
set_option linter.unusedVariables false

theorem digit_fin : ∀ n : Fin 36, (((⟨#[97, 98, 99, 100, 101, 102, 103, 104, 105, 106, 107, 108, 109, 110, 111, 112, 113, 114, 115, 116, 117, 118, 119, 120, 121, 122, 48, 49, 50, 51, 52, 53, 54, 55, 56, 57]⟩ : ByteArray)[n.1]'(n.2)).toNat : Int) = ((Pn.dgt (n.1 : Int)).toNat : Int) := by decide +kernel
theorem digit_fin' : ∀ n : Fin 36, ((⟨#[97, 98, 99, 100, 101, 102, 103, 104, 105, 106, 107, 108, 109, 110, 111, 112, 113, 114, 115, 116, 117, 118, 119, 120, 121, 122, 48, 49, 50, 51, 52, 53, 54, 55, 56, 57]⟩ : ByteArray).extract n.1 (n.1 + 1)).data = #[Pn.dgt (n.1 : Int)] := by decide +kernel
theorem digit_any (n : Nat) (h : n < 36) (w : World) :
    Calls Try.prog 50 #[.int .i64 (n : Int)] w fun e w' => e = .returned (.int .u8 ((Pn.dgt (n : Int)).toNat : Int)) ∧ w = w' := by
  go_enter Try.func50, Try.ntmps50
  go_wp2
  go_ret
  exact ⟨ret_int (digit_fin ⟨n, h⟩), rfl⟩
theorem rdigit_any (n : Nat) (h : n < 36) (w : World) :
    Calls Try.prog 52 #[.int .i64 (n : Int)] w fun e w' => e = .returned (.string ⟨#[Pn.dgt (n : Int)]⟩) ∧ w = w' := by
  go_enter Try.func52, Try.ntmps52
  go_wp2
  go_ret
  refine ⟨?_, rfl⟩
  exact congrArg (fun s => Ending.returned (Value.string s)) (ByteArray.ext (digit_fin' ⟨n, h⟩))
theorem Pn.dval_small {b : UInt8} (h : 97 ≤ (b.toNat : Int) ∧ (b.toNat : Int) ≤ 122) : Pn.dval b = some ((b.toNat : Int) - 97) := by unfold Pn.dval; rw [if_pos h]
theorem Pn.dval_big {b : UInt8} (h : 65 ≤ (b.toNat : Int) ∧ (b.toNat : Int) ≤ 90) : Pn.dval b = some ((b.toNat : Int) - 65) := by unfold Pn.dval; rw [if_neg (by omega), if_pos h]
theorem Pn.dval_num {b : UInt8} (h : 48 ≤ (b.toNat : Int) ∧ (b.toNat : Int) ≤ 57) : Pn.dval b = some ((b.toNat : Int) - 48 + 26) := by unfold Pn.dval; rw [if_neg (by omega), if_neg (by omega), if_pos h]
theorem Pn.dval_none {b : UInt8} (h1 : ¬ (97 ≤ (b.toNat : Int) ∧ (b.toNat : Int) ≤ 122)) (h2 : ¬ (65 ≤ (b.toNat : Int) ∧ (b.toNat : Int) ≤ 90)) (h3 : ¬ (48 ≤ (b.toNat : Int) ∧ (b.toNat : Int) ≤ 57)) : Pn.dval b = none := by
  unfold Pn.dval; rw [if_neg h1, if_neg h2, if_neg h3]
theorem dval_cases (b : UInt8) : ∃ c : Int, (b.toNat : Int) = c ∧ 0 ≤ c ∧ c ≤ 255 ∧
    ((97 ≤ c ∧ c ≤ 122 ∧ Pn.dval b = some (c - 97)) ∨ (65 ≤ c ∧ c ≤ 90 ∧ Pn.dval b = some (c - 65)) ∨ (48 ≤ c ∧ c ≤ 57 ∧ Pn.dval b = some (c - 48 + 26)) ∨
     ((c < 48 ∨ (57 < c ∧ c < 65) ∨ (90 < c ∧ c < 97) ∨ 122 < c) ∧ Pn.dval b = none)) := by
  have := b.toNat_lt
  refine ⟨_, rfl, by omega, by omega, ?_⟩
  by_cases h1 : 97 ≤ (b.toNat : Int) ∧ (b.toNat : Int) ≤ 122
  · exact .inl ⟨h1.1, h1.2, Pn.dval_small h1⟩
  by_cases h2 : 65 ≤ (b.toNat : Int) ∧ (b.toNat : Int) ≤ 90
  · exact .inr (.inl ⟨h2.1, h2.2, Pn.dval_big h2⟩)
  by_cases h3 : 48 ≤ (b.toNat : Int) ∧ (b.toNat : Int) ≤ 57
  · exact .inr (.inr (.inl ⟨h3.1, h3.2, Pn.dval_num h3⟩))
  exact .inr (.inr (.inr ⟨by omega, Pn.dval_none h1 h2 h3⟩))
set_option maxHeartbeats 1000000 in
theorem value_any (b : UInt8) (w : World) :
    Calls Try.prog 55 #[.int .u8 (b.toNat : Int)] w fun e w' => e = .returned (.tuple #[.int .i64 ((Pn.dval b).getD 0), .bool (Pn.dval b).isSome]) ∧ w = w' := by
  obtain ⟨c, hc, c0, c1, h⟩ := dval_cases b
  rw [hc]
  clear hc
  rcases h with ⟨h1, h2, h⟩ | ⟨h1, h2, h⟩ | ⟨h1, h2, h⟩ | ⟨h1 | ⟨h1, h2⟩ | ⟨h1, h2⟩ | h1, h⟩
  all_goals
    rw [h]
    clear h
    go_enter Try.func55, Try.ntmps55
    go_wp2
    go_ret2
    exact ⟨rfl, rfl⟩
set_option maxHeartbeats 1000000 in
theorem rvalue_any (b : UInt8) (w : World) :
    Calls Try.prog 58 #[.int .u8 (b.toNat : Int)] w fun e w' => e = .returned (.int .i64 ((Pn.dval b).getD (-1))) ∧ w = w' := by
  obtain ⟨c, hc, c0, c1, h⟩ := dval_cases b
  rw [hc]
  clear hc
  rcases h with ⟨h1, h2, h⟩ | ⟨h1, h2, h⟩ | ⟨h1, h2, h⟩ | ⟨h1 | ⟨h1, h2⟩ | ⟨h1, h2⟩ | h1, h⟩
  all_goals
    rw [h]
    clear h
    go_enter Try.func58, Try.ntmps58
    go_wp2
    go_ret
    exact ⟨rfl, rfl⟩
end Go.Proofs.Ytoihjbiahccaaaa
