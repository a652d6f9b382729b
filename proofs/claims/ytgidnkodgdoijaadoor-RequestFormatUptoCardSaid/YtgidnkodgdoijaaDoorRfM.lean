/- The walk of request.Format, for all requests. -/
import Derived.Test.YtgidnkodgdoijaaDoorRfF
namespace Go.Proofs.YtgidnkodgdoijaaDoor
open Go Go.RowKit Go.Proofs
set_option linter.unusedVariables false

theorem fmtAll_pair (op ttl : Int) (ns : List (List UInt8)) : ∃ s e, fmtAll op ttl ns = .tuple #[.string s, .int .i64 e] := by
  unfold fmtAll fmtVal
  split
  · split
    · split
      · exact ⟨_, _, rfl⟩
      · split
        · exact ⟨_, _, rfl⟩
        · exact ⟨_, _, rfl⟩
    · exact ⟨_, _, rfl⟩
  · exact ⟨_, _, rfl⟩
set_option maxRecDepth 100000 in
set_option maxHeartbeats 8000000 in
theorem formatx_any (op ttl : Int) (A : Option Addr) (n c : Nat) (ns : List (List UInt8)) (w : World) (hr : Rd w w.heap.size 1 A n (strs (ns.map str)))
    (hN : n ≤ 1048576) (hm : ∀ x ∈ ns, x.length ≤ 1048576) (hL : 1 ≤ op ∧ op ≤ 7 → Rq.ttl op ttl = true → (Rq.ftext op ttl ns).length ≤ 140737488355328) (htab : Tb w) :
    Calls Tryd.prog 12 #[.agg #[.int .i64 op, .int .i64 ttl, .slice A n c]] w fun e w' => e = .returned (fmtAll op ttl ns) ∧ Below w.heap.size w w' := by
  have hb1 : Below w.heap.size w (w.alloc (.cells #[.int .i64 op, .int .i64 ttl, .slice A n c] 35)) := (Below.refl _ _).alloc (Nat.le_refl _) _
  have HB1 := Lib.hid hb1
  by_cases hop : 1 ≤ op ∧ op ≤ 7
  · cases ht : Rq.ttl op ttl
    · have HA := Lib.hid (show fmtAll op ttl ns = .tuple #[.string ⟨#[]⟩, .int .i64 3] by unfold fmtAll; rw [if_pos hop, ht]; rfl)
      have HT := Lib.hid (ttl_any op ttl)
      rw [ht] at HT
      have h1 : ¬ op < 1 := by omega
      have h7 : ¬ (7 : Int) < op := by omega
      clear hop ht hb1 hr hm hL htab
      go_enter Tryd.func12, Tryd.ntmps12
      go_wp2_with fail
      refine (HT.out _).mono ?_
      rintro e w1 ⟨rfl, rfl⟩
      go_wp2_with fail
      go_ret2
      exact ⟨by rw [HA.out]; rfl, HB1.out⟩
    · obtain ⟨j, rfl⟩ : ∃ j : Nat, op = (j : Int) := ⟨op.toNat, by omega⟩
      have hA : fmtAll (j : Int) ttl ns = fmtVal (j : Int) ttl ns := by unfold fmtAll; rw [if_pos hop, if_pos ht]
      rw [hA]
      exact format_any j ttl A n c ns w hr (by omega) (by omega) ht hN hm (hL hop ht) htab
  · have HA := Lib.hid (show fmtAll op ttl ns = .tuple #[.string ⟨#[]⟩, .int .i64 1] by unfold fmtAll; rw [if_neg hop])
    have hc : op < 1 ∨ (¬ op < 1 ∧ 7 < op) := by omega
    clear hop hb1 hr hm hL htab
    rcases hc with h1 | ⟨h1, h7⟩
    all_goals
      go_enter Tryd.func12, Tryd.ntmps12
      go_wp2_with fail
      go_ret2
      exact ⟨by rw [HA.out]; rfl, HB1.out⟩
end Go.Proofs.YtgidnkodgdoijaaDoor
