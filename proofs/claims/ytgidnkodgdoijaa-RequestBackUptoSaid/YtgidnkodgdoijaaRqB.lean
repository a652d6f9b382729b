/- The walk of the law RequestBack. -/
import Derived.Test.YtgidnkodgdoijaaRqT
namespace Go.Proofs.Ytgidnkodgdoijaa
open Go Go.RowKit
set_option linter.unusedVariables false

set_option maxRecDepth 100000 in
set_option maxHeartbeats 8000000 in
theorem walk_RequestBack (a0 : ByteArray) (w : World) (w0 : a0.size ≤ maxLen) (u0 : a0.size ≤ 1048576) :
    Calls Try.prog 5 #[.string a0] w fun e w' => e = .returned (.bool true) ∧ Below w.heap.size w w' := by
  have hql := Rq.quote_len (lst a0)
  have hvis := Rq.quote_vis (lst a0)
  have huq := Rq.unquote_quote (lst a0)
  have HQ := Lib.hid (quote_any a0 (by omega))
  rw [lst_length] at hql
  generalize Rq.quote (lst a0) = q at *
  obtain ⟨q1, q2, q3⟩ := hql
  have hqs : (str q).size = q.length := str_size q
  have hun := fun w => unquote_any (str q) (by rw [str_size]; omega) w
  have hval : unqVal q = .tuple #[.string a0, .bool true] := by unfold unqVal; rw [huq, str_lst]
  simp only [lst_str, hval] at hun
  have HU := Lib.hid hun; have HV := Lib.hid hvis
  clear w0 hvis huq hun hval
  have heq : (a0.toList == a0.toList) = true := by simp
  go_enter Try.func5, Try.ntmps5
  go_wp2_with fail
  refine (HQ.out _).mono ?_
  rintro e w1 ⟨rfl, hb1⟩
  have HB1 := Lib.hid hb1; have hsz1 := hb1.size
  clear hb1
  go_wp2_with fail
  refine (HU.out _).mono ?_
  rintro e w2 ⟨rfl, hb2⟩
  have HB2 := Lib.hid (HB1.out.trans (hb2.mono hsz1)); have hsz2 := HB2.out.size
  clear hb2
  go_wp2_with fail
  go_loopw [6] (fun vi wr => ∃ k : Nat, k ≤ q.length ∧ vi = .int .i64 k ∧ w2 = wr) (fun vi _ => q.length - (intOf vi).toNat)
  case atStart => exact ⟨0, by omega, rfl, rfl⟩
  case round =>
    obtain ⟨k, hk, rfl, rfl⟩ := hrel
    by_cases hlt : k < q.length
    · have hks : k < (str q).size := by omega
      have hat := lst_at (str q) k hks
      rw [lst_str] at hat
      have hv := HV.out _ (List.mem_of_getElem? hat)
      have hv1 : (33 : Int) ≤ ((str q)[k].toNat : Int) := by omega
      have hv2 : ((str q)[k].toNat : Int) ≤ 126 := by omega
      clear hat hv
      go_wp2
      go_roundw
      case rel => exact ⟨k + 1, by omega, by go_num, trivial⟩
      case measure => simp [intOf]; omega
    · have hp : (0 : Int) < (q.length : Int) := by omega
      have hge : (a0.size : Int) ≤ (q.length : Int) := by omega
      have hle : (q.length : Int) ≤ 3 * (a0.size : Int) + 2 := by omega
      go_wp2_with fail
      refine (awake27_any _).mono ?_
      rintro e w3 ⟨rfl, hb3⟩
      have HB3 := Lib.hid (HB2.out.trans (hb3.mono hsz2))
      clear hb3
      go_wp2
      go_ret
      exact ⟨rfl, HB3.out⟩
end Go.Proofs.Ytgidnkodgdoijaa
