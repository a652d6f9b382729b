/- The walks of the reference's before and after. -/
import Derived.Test.YthdfhijahkfjdaaWithout
namespace Go.Proofs.Ythdfhijahkfjdaa
open Go Go.RowKit
set_option linter.unusedVariables false

set_option maxHeartbeats 4000000 in
theorem before_any (A : Option Addr) (c : Nat) (l : List Rg.Sn) (x : Int) (B : Nat) (w : World) (hr : Rd w B 3 A l.length (spans l)) (hBw : B ≤ w.heap.size) (hl : l.length ≤ 1000000000)
    (hx0 : -1 ≤ x) (hx1 : x ≤ 1114112) :
    Calls Try.prog 42 #[.slice A l.length c, .int .i64 x] w (RetSp (Rg.before l x) w) := by
  have HR := Lib.hid hr; clear hr
  generalize hn : l.length = n at *
  have HN := Lib.hid hn; clear hn
  generalize hg : w.heap.size = g at *
  have HG := Lib.hid hg; clear hg
  go_enter Try.func42, Try.ntmps42
  go_wp2
  go_loopw [5, 10] (fun vo i wr => ∃ (k m : Nat) (Ao : Option Addr) (co : Nat), k ≤ n ∧ i = .int .i64 k ∧ vo = .slice Ao m co ∧ m ≤ k ∧ (Rg.before (l.take k) x).length = m ∧
      wr.ownsRow g 25 3 (.slice Ao m co) m (spans (Rg.before (l.take k) x)) ∧ Below g w wr) (fun _ i _ => n - (intOf i).toNat)
  case atStart => exact ⟨0, 0, none, 0, by omega, rfl, rfl, by omega, rfl, World.ownsRow_nil _ _ _ _, Below.refl _ _⟩
  case round =>
    obtain ⟨k, m, Ao, co, hk, rfl, rfl, hmk, hom, ho, hb⟩ := hrel
    have HO := Lib.hid ho; have HB := Lib.hid hb; have HOM := Lib.hid hom
    clear ho hb hom
    have hgw : g ≤ wr.heap.size := by have := HB.out.size; have := HG.out; omega
    by_cases hlt : k < n
    · obtain ⟨b, off, s, rfl, hbB, hs, h1, h2, h3⟩ := spans_cell (HR.out.below (HB.out.mono hBw)) hlt
      have hwt := Rg.before_snoc l k x s hs
      generalize ho : Rg.before (l.take k) x = o at *
      have HWT := Lib.hid hwt
      clear hwt hs ho
      have HBK := Lib.hid (Bk.new wr 25 #[.int .i64 s.f, .int .i64 s.t, .int .i64 s.v])
      have HO1 := Lib.hid (HO.out.alloc (.cells #[.int .i64 s.f, .int .i64 s.t, .int .i64 s.v] 25))
      have HB1 := Lib.hid (HB.out.alloc hgw (.cells #[.int .i64 s.f, .int .i64 s.t, .int .i64 s.v] 25))
      have hne : (Value.slice Ao m co).ownBlock ≠ some wr.heap.size := by
        intro e; have := (HO.out.lt _ e).2; omega
      have HNE := Lib.hid hne
      clear hne
      by_cases hA : s.f < x
      · have hmn := @run_min2 Try.prog
        go_wp2_with (at_builtin; refine app_span (by rfl) _ _ rfl (base := g) rfl (HO1.out.alloc _) rfl (rd_one_span_at (z := wr.heap.size + 1) (by simp) ⟨s.f, min s.t (x - 1), s.v⟩) (by omega) (by simp <;> omega) ?_)
        intro A1 c1 w1 ho1 hg1 hc1
        have HP := Lib.hid (PartOne.put HOM.out HO1.out HBK.out HB1.out HNE.out (by simp <;> omega) ho1 hg1 hc1 (by simp))
        clear ho1 hg1 hc1
        go_wp2
        go_roundw
        case rel =>
          obtain ⟨m4, A4, c4, hm4, hv4, ho4, _, hb4, _⟩ := HP.out
          injection hv4 with e1 e2 e3
          subst e1; subst e2; subst e3
          have hn := HWT.out
          rw [if_pos hA] at hn
          exact ⟨k + 1, m + 1, A1, c1, by omega, by go_num, rfl, by omega, by rw [hn]; exact hm4, by rw [hn]; exact ho4, hb4⟩
        case measure => simp [intOf]; omega
      · go_wp2
        go_roundw
        case rel =>
          have hn := HWT.out
          rw [if_neg (by omega), List.append_nil] at hn
          exact ⟨k + 1, m, Ao, co, by omega, by go_num, rfl, by omega, by rw [hn]; exact HOM.out, by rw [hn]; exact HO1.out, HB1.out⟩
        case measure => simp [intOf]; omega
    · have htk : l.take k = l := List.take_of_length_le (by have := HN.out; omega)
      rw [htk] at HO HOM
      clear htk
      go_wp2
      go_ret
      unfold RetSp
      rw [HOM.out, HG.out]
      exact ⟨Ao, co, rfl, HO.out, HB.out⟩

set_option maxHeartbeats 4000000 in
theorem after_any (A : Option Addr) (c : Nat) (l : List Rg.Sn) (x : Int) (B : Nat) (w : World) (hr : Rd w B 3 A l.length (spans l)) (hBw : B ≤ w.heap.size) (hl : l.length ≤ 1000000000)
    (hx0 : -1 ≤ x) (hx1 : x ≤ 1114112) :
    Calls Try.prog 43 #[.slice A l.length c, .int .i64 x] w (RetSp (Rg.after l x) w) := by
  have HR := Lib.hid hr; clear hr
  generalize hn : l.length = n at *
  have HN := Lib.hid hn; clear hn
  generalize hg : w.heap.size = g at *
  have HG := Lib.hid hg; clear hg
  go_enter Try.func43, Try.ntmps43
  go_wp2
  go_loopw [5, 10] (fun vo i wr => ∃ (k m : Nat) (Ao : Option Addr) (co : Nat), k ≤ n ∧ i = .int .i64 k ∧ vo = .slice Ao m co ∧ m ≤ k ∧ (Rg.after (l.take k) x).length = m ∧
      wr.ownsRow g 25 3 (.slice Ao m co) m (spans (Rg.after (l.take k) x)) ∧ Below g w wr) (fun _ i _ => n - (intOf i).toNat)
  case atStart => exact ⟨0, 0, none, 0, by omega, rfl, rfl, by omega, rfl, World.ownsRow_nil _ _ _ _, Below.refl _ _⟩
  case round =>
    obtain ⟨k, m, Ao, co, hk, rfl, rfl, hmk, hom, ho, hb⟩ := hrel
    have HO := Lib.hid ho; have HB := Lib.hid hb; have HOM := Lib.hid hom
    clear ho hb hom
    have hgw : g ≤ wr.heap.size := by have := HB.out.size; have := HG.out; omega
    by_cases hlt : k < n
    · obtain ⟨b, off, s, rfl, hbB, hs, h1, h2, h3⟩ := spans_cell (HR.out.below (HB.out.mono hBw)) hlt
      have hwt := Rg.after_snoc l k x s hs
      generalize ho : Rg.after (l.take k) x = o at *
      have HWT := Lib.hid hwt
      clear hwt hs ho
      have HBK := Lib.hid (Bk.new wr 25 #[.int .i64 s.f, .int .i64 s.t, .int .i64 s.v])
      have HO1 := Lib.hid (HO.out.alloc (.cells #[.int .i64 s.f, .int .i64 s.t, .int .i64 s.v] 25))
      have HB1 := Lib.hid (HB.out.alloc hgw (.cells #[.int .i64 s.f, .int .i64 s.t, .int .i64 s.v] 25))
      have hne : (Value.slice Ao m co).ownBlock ≠ some wr.heap.size := by
        intro e; have := (HO.out.lt _ e).2; omega
      have HNE := Lib.hid hne
      clear hne
      by_cases hA : x < s.t
      · have hmn := @run_max2 Try.prog
        go_wp2_with (at_builtin; refine app_span (by rfl) _ _ rfl (base := g) rfl (HO1.out.alloc _) rfl (rd_one_span_at (z := wr.heap.size + 1) (by simp) ⟨max s.f (x + 1), s.t, s.v⟩) (by omega) (by simp <;> omega) ?_)
        intro A1 c1 w1 ho1 hg1 hc1
        have HP := Lib.hid (PartOne.put HOM.out HO1.out HBK.out HB1.out HNE.out (by simp <;> omega) ho1 hg1 hc1 (by simp))
        clear ho1 hg1 hc1
        go_wp2
        go_roundw
        case rel =>
          obtain ⟨m4, A4, c4, hm4, hv4, ho4, _, hb4, _⟩ := HP.out
          injection hv4 with e1 e2 e3
          subst e1; subst e2; subst e3
          have hn := HWT.out
          rw [if_pos hA] at hn
          exact ⟨k + 1, m + 1, A1, c1, by omega, by go_num, rfl, by omega, by rw [hn]; exact hm4, by rw [hn]; exact ho4, hb4⟩
        case measure => simp [intOf]; omega
      · go_wp2
        go_roundw
        case rel =>
          have hn := HWT.out
          rw [if_neg (by omega), List.append_nil] at hn
          exact ⟨k + 1, m, Ao, co, by omega, by go_num, rfl, by omega, by rw [hn]; exact HOM.out, by rw [hn]; exact HO1.out, HB1.out⟩
        case measure => simp [intOf]; omega
    · have htk : l.take k = l := List.take_of_length_le (by have := HN.out; omega)
      rw [htk] at HO HOM
      clear htk
      go_wp2
      go_ret
      unfold RetSp
      rw [HOM.out, HG.out]
      exact ⟨Ao, co, rfl, HO.out, HB.out⟩
end Go.Proofs.Ythdfhijahkfjdaa
