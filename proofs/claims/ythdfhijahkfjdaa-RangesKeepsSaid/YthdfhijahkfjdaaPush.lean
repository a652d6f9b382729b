/- The walk of ranges.push: a span behind a row of the call's own, combined with the last one if possible. -/
import Derived.Test.YthdfhijahkfjdaaWithout
import Derived.Deep.QuietTactic
import Derived.BigQuiet
namespace Go.Proofs.Ythdfhijahkfjdaa
open Go Go.RowKit
set_option linter.unusedVariables false

theorem spans_last (l : List Rg.Sn) (p : Rg.Sn) : (spans (l ++ [p]))[l.length * 3]? = some (.int .i64 p.f) ∧ (spans (l ++ [p]))[l.length * 3 + 1]? = some (.int .i64 p.t) ∧ (spans (l ++ [p]))[l.length * 3 + 2]? = some (.int .i64 p.v) :=
  spans_at (l ++ [p]) l.length p (by simp)
theorem spans_set (l : List Rg.Sn) (p : Rg.Sn) (t : Int) : (spans (l ++ [p])).set (l.length * 3 + 1) (.int .i64 t) = spans (l ++ [⟨p.f, t, p.v⟩]) := by
  rw [spans_append, spans_append, List.set_append_right _ _ (by rw [spans_length]; omega), spans_length]
  simp [spans, Rg.Sn.cells3]
/-- What push returns: only the row's own block, and what is new, has turned. -/
def RetPush (base : Nat) (o : List Rg.Sn) (ob : Option Nat) (w : World) (e : Ending) (w' : World) : Prop :=
  ∃ m A c, e = .returned (.slice A m c) ∧ o.length = m ∧ w'.ownsRow base 25 3 (.slice A m c) m (spans o) ∧ w.grownBy w' ob ∧ ((Value.slice A m c).ownBlock = ob ∨ ∃ q, (Value.slice A m c).ownBlock = some q ∧ w.heap.size ≤ q)

theorem grown_alloc {w w' : World} {o : Obj} {row : Option Nat} (h : (w.alloc o).grownBy w' row) : w.grownBy w' row := only_trans (only_alloc (only_refl w row) o) h
theorem own_drewN {w : World} {base : Nat} {e : TypeId} {size n : Nat} {v : Value} {xs : List Value} (h : w.ownsRow base e size v n xs) (k : Nat) : (w.drewN k).ownsRow base e size v n xs := h
/-- An append behind some blocks of the call's own. -/
theorem RetPush.put {base : Nat} {o' : List Rg.Sn} {m c' : Nat} {A' : Option Addr} {w w1 w' : World} {ob : Option Nat} {z : Nat} (hm : o'.length = m) (ho : w'.ownsRow base 25 3 (.slice A' m c') m (spans o'))
    (h1 : w.grownBy w1 ob) (hg : w1.grownBy w' ob) (hc : (Value.slice A' m c').ownBlock = ob ∨ (Value.slice A' m c').ownBlock = some z) (hz : w.heap.size ≤ z) : RetPush base o' ob w (.returned (.slice A' m c')) w' :=
  ⟨m, A', c', rfl, hm, ho, only_trans h1 hg, hc.imp id (fun h => ⟨z, h, hz⟩)⟩

set_option maxHeartbeats 4000000 in
theorem push_nil (A : Option Addr) (c : Nat) (base : Nat) (s : Rg.Sn) (w : World) (ho : w.ownsRow base 25 3 (.slice A 0 c) 0 (spans [])) (hb : base ≤ w.heap.size) :
    Calls Try.prog 35 #[.slice A 0 c, .agg #[.int .i64 s.f, .int .i64 s.t, .int .i64 s.v]] w (RetPush base (Rg.push [] s) (Value.slice A 0 c).ownBlock w) := by
  have HO := Lib.hid ho; clear ho
  go_enter Try.func35, Try.ntmps35
  go_wp2_with fail
  go_quiet (fail)
  go_wp2_with (at_builtin; refine app_span (by rfl) _ _ rfl (base := base) rfl ((own_drewN (HO.out.alloc _) _).alloc _) rfl (rd_one_span_at (z := w.heap.size + 1) (by simp) s) (by omega) (by simp <;> omega) ?_)
  intro A1 c1 w1 ho1 hg1 hc1
  have HP := Lib.hid (RetPush.put (w := w) (o' := [s]) rfl ho1 (only_alloc (only_drewN (only_alloc (only_refl w _) _) _) _) hg1 hc1 (by omega))
  clear ho1 hg1 hc1
  go_wp2
  go_ret
  exact HP.out

theorem last_cells {w : World} {base : Nat} {l : List Rg.Sn} {p : Rg.Sn} {A : Option Addr} {c : Nat} (ho : w.ownsRow base 25 3 (.slice A (l.length + 1) c) (l.length + 1) (spans (l ++ [p]))) :
    ∃ g, A = some ⟨g, 0, none⟩ ∧ base ≤ g ∧ g < w.heap.size ∧ l.length + 1 ≤ c ∧ w.cell? ⟨g, l.length * 3, none⟩ = some (.int .i64 p.f) ∧ w.cell? ⟨g, l.length * 3 + 1, none⟩ = some (.int .i64 p.t) ∧ w.cell? ⟨g, l.length * 3 + 2, none⟩ = some (.int .i64 p.v) ∧
      w.frozen? ⟨g, l.length * 3 + 1, none⟩ = false := by
  obtain ⟨h1, h2⟩ := ho
  rcases h2 with ⟨_, h0⟩ | ⟨g, cap, cur, hv, hb, hh, hnc, hcm, hsz, htk⟩
  · omega
  · injection hv with hA hl hc
    subst hA; subst hc
    have ho : w.ownsRow base 25 3 (.slice (some ⟨g, 0, none⟩) (l.length + 1) c) (l.length + 1) (spans (l ++ [p])) := ⟨h1, .inr ⟨g, c, cur, rfl, hb, hh, hnc, hcm, hsz, htk⟩⟩
    obtain ⟨s1, s2, s3⟩ := spans_last l p
    refine ⟨g, rfl, hb, (Array.getElem?_eq_some_iff.1 hh).1, hnc, ?_, ?_, ?_, ho.frozenAt _⟩
    · rw [ho.cellAt _ (by omega)]; exact s1
    · rw [ho.cellAt _ (by omega)]; exact s2
    · rw [ho.cellAt _ (by omega)]; exact s3
theorem last_store {w : World} {base : Nat} {l : List Rg.Sn} {p : Rg.Sn} {g c j : Nat} (hj : l.length = j) (ho : w.ownsRow base 25 3 (.slice (some ⟨g, 0, none⟩) (j + 1) c) (j + 1) (spans (l ++ [p]))) (t : Int) :
    (w.setCell ⟨g, j * 3 + 1, none⟩ (.int .i64 t)).ownsRow base 25 3 (.slice (some ⟨g, 0, none⟩) (j + 1) c) (j + 1) (spans (l ++ [⟨p.f, t, p.v⟩])) ∧ w.grownBy (w.setCell ⟨g, j * 3 + 1, none⟩ (.int .i64 t)) (some g) := by
  subst hj
  rw [← spans_set]; exact ho.stored _ _

theorem push_fact {l : List Rg.Sn} {p s : Rg.Sn} {j : Nat} (hj : l.length = j) : (l ++ [p] ++ [s]).length = j + 1 + 1 ∧ (l ++ [(⟨p.f, s.t, p.v⟩ : Rg.Sn)]).length = j + 1 := by subst hj; simp
set_option maxHeartbeats 4000000 in
theorem push_same (g : Nat) (c : Nat) (base : Nat) (l : List Rg.Sn) (p s : Rg.Sn) (j : Nat) (hj : l.length = j) (w : World) (ho : w.ownsRow base 25 3 (.slice (some ⟨g, 0, none⟩) (j + 1) c) (j + 1) (spans (l ++ [p]))) (hb : base ≤ w.heap.size)
    (hl : j ≤ 1000000000) (h0 : 0 ≤ s.f) (h1 : s.f ≤ 1114111) (hv : p.v = s.v) (ht : p.t = s.f - 1) :
    Calls Try.prog 35 #[.slice (some ⟨g, 0, none⟩) (j + 1) c, .agg #[.int .i64 s.f, .int .i64 s.t, .int .i64 s.v]] w (RetPush base (l ++ [⟨p.f, s.t, p.v⟩]) (some g) w) := by
  have HO := Lib.hid ho
  subst hj
  obtain ⟨g', hg', hgb, hgw, hnc, c0, c1, c2, fz⟩ := last_cells ho
  injection hg' with hg'; injection hg' with hg' _; subst hg'
  generalize hj : l.length = j at *
  have HJ := Lib.hid hj
  have hv1 : (p.v == s.v) = true := by simpa using hv
  have ht1 : (p.t == s.f - 1) = true := by simpa using ht
  clear ho hj hv ht
  go_enter Try.func35, Try.ntmps35
  go_wp2_with fail
  go_quiet (fail)
  go_wp2
  go_ret
  have ho2 := own_drewN (HO.out.alloc (.cells #[.int .i64 s.f, .int .i64 s.t, .int .i64 s.v] 25)) nq
  have h2 := last_store HJ.out ho2 s.t
  exact ⟨j + 1, _, c, rfl, (push_fact (p := p) (s := s) HJ.out).2, h2.1, only_trans (only_drewN (only_alloc (only_refl w _) _) _) h2.2, .inl rfl⟩
set_option maxHeartbeats 4000000 in
theorem push_diff (g : Nat) (c : Nat) (base : Nat) (l : List Rg.Sn) (p s : Rg.Sn) (j : Nat) (hj : l.length = j) (w : World) (ho : w.ownsRow base 25 3 (.slice (some ⟨g, 0, none⟩) (j + 1) c) (j + 1) (spans (l ++ [p]))) (hb : base ≤ w.heap.size)
    (hl : j ≤ 1000000000) (h0 : 0 ≤ s.f) (h1 : s.f ≤ 1114111) (hne : ¬ (p.v = s.v ∧ p.t = s.f - 1)) :
    Calls Try.prog 35 #[.slice (some ⟨g, 0, none⟩) (j + 1) c, .agg #[.int .i64 s.f, .int .i64 s.t, .int .i64 s.v]] w (RetPush base (l ++ [p] ++ [s]) (some g) w) := by
  have HO := Lib.hid ho
  subst hj
  obtain ⟨g', hg', hgb, hgw, hnc, c0, c1, c2, fz⟩ := last_cells ho
  injection hg' with hg'; injection hg' with hg' _; subst hg'
  generalize hj : l.length = j at *
  have HJ := Lib.hid hj
  have h3 : p.v = s.v ∨ p.v ≠ s.v := by omega
  clear ho hj
  rcases h3 with hv | hv
  · have hv1 : (p.v == s.v) = true := by simpa using hv
    have ht1 : (p.t == s.f - 1) = false := by simp; omega
    clear hv hne
    go_enter Try.func35, Try.ntmps35
    go_wp2_with fail
    go_quiet (fail)
    go_wp2_with (at_builtin; refine app_span (by rfl) _ _ rfl (base := base) rfl ((own_drewN (HO.out.alloc _) _).alloc _) rfl (rd_one_span_at (z := w.heap.size + 1) (by simp) s) (by omega) (by simp <;> omega) ?_)
    intro A1 c1 w1 ho1 hg1 hc1
    have HP := Lib.hid (RetPush.put (w := w) (push_fact (p := p) (s := s) HJ.out).1 (by rw [List.append_assoc]; exact ho1) (only_alloc (only_drewN (only_alloc (only_refl w _) _) _) _) hg1 hc1 (by omega))
    clear ho1 hg1 hc1
    go_wp2
    go_ret
    exact HP.out
  · have hv1 : (p.v == s.v) = false := by simpa using hv
    clear hv hne
    go_enter Try.func35, Try.ntmps35
    go_wp2_with fail
    go_quiet (fail)
    go_wp2_with (at_builtin; refine app_span (by rfl) _ _ rfl (base := base) rfl ((own_drewN (HO.out.alloc _) _).alloc _) rfl (rd_one_span_at (z := w.heap.size + 1) (by simp) s) (by omega) (by simp <;> omega) ?_)
    intro A1 c1 w1 ho1 hg1 hc1
    have HP := Lib.hid (RetPush.put (w := w) (push_fact (p := p) (s := s) HJ.out).1 (by rw [List.append_assoc]; exact ho1) (only_alloc (only_drewN (only_alloc (only_refl w _) _) _) _) hg1 hc1 (by omega))
    clear ho1 hg1 hc1
    go_wp2
    go_ret
    exact HP.out
/-- push, whatever the row. -/
theorem push_any (A : Option Addr) (m c : Nat) (base : Nat) (o : List Rg.Sn) (s : Rg.Sn) (w : World) (hm : o.length = m) (ho : w.ownsRow base 25 3 (.slice A m c) m (spans o)) (hb : base ≤ w.heap.size)
    (hl : m ≤ 1000000000) (h0 : 0 ≤ s.f) (h1 : s.f ≤ 1114111) :
    Calls Try.prog 35 #[.slice A m c, .agg #[.int .i64 s.f, .int .i64 s.t, .int .i64 s.v]] w (RetPush base (Rg.push o s) (Value.slice A m c).ownBlock w) := by
  subst hm
  rcases List.eq_nil_or_concat o with rfl | ⟨l, p, rfl⟩
  · exact push_nil A c base s w ho hb
  · rw [List.concat_eq_append] at ho hl ⊢
    have e : (l ++ [p]).length = l.length + 1 := by simp
    rw [e] at ho hl ⊢
    obtain ⟨g, rfl, _⟩ := last_cells ho
    rw [Rg.push_snoc]
    split
    next hc => exact push_same g c base l p s l.length rfl w ho hb (by omega) h0 h1 hc.1 hc.2
    next hc => exact push_diff g c base l p s l.length rfl w ho hb (by omega) h0 h1 hc
end Go.Proofs.Ythdfhijahkfjdaa
