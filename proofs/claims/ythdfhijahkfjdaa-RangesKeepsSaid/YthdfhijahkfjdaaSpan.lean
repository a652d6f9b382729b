/- Slices of spans as lists; the walk of ranges.Check. -/
import Derived.Test.YthdfhijahkfjdaaProg
import Derived.Test.YthdfhijahkfjdaaBase
import Derived.Test.YthdfhijahkfjdaaRgMath
import Derived.Deep.QuietTactic
import Derived.BigQuiet
namespace Go.Proofs.Ythdfhijahkfjdaa
open Go Go.RowKit
set_option linter.unusedVariables false

/-- A span's three cells; the spans' cells. -/
def Rg.Sn.cells3 (s : Rg.Sn) : List Value := [.int .i64 s.f, .int .i64 s.t, .int .i64 s.v]
def spans : List Rg.Sn → List Value
  | [] => []
  | s :: r => s.cells3 ++ spans r
theorem spans_length : ∀ l : List Rg.Sn, (spans l).length = l.length * 3
  | [] => rfl
  | s :: r => by simp [spans, Rg.Sn.cells3, spans_length r]; omega
theorem spans_append : ∀ l m : List Rg.Sn, spans (l ++ m) = spans l ++ spans m
  | [], m => rfl
  | s :: r, m => by simp [spans, spans_append r m]
theorem spans_at : ∀ (l : List Rg.Sn) (k : Nat) (s : Rg.Sn), l[k]? = some s → (spans l)[k * 3]? = some (.int .i64 s.f) ∧ (spans l)[k * 3 + 1]? = some (.int .i64 s.t) ∧ (spans l)[k * 3 + 2]? = some (.int .i64 s.v)
  | [], k, s, h => by simp at h
  | a :: r, 0, s, h => by simp at h; subst h; simp [spans, Rg.Sn.cells3]
  | a :: r, k + 1, s, h => by
    have ih := spans_at r k s (by simpa using h)
    have e : ∀ j, (spans (a :: r))[(k + 1) * 3 + j]? = (spans r)[k * 3 + j]? := by
      intro j
      show (a.cells3 ++ spans r)[(k + 1) * 3 + j]? = _
      rw [List.getElem?_append_right (by simp [Rg.Sn.cells3]; omega)]
      congr 1
      simp [Rg.Sn.cells3]; omega
    exact ⟨(e 0).trans ih.1, (e 1).trans ih.2.1, (e 2).trans ih.2.2⟩
/-- Element k of a slice of spans, as three cells. -/
theorem spans_cell {w : World} {B n : Nat} {A : Option Addr} {l : List Rg.Sn} (h : Rd w B 3 A n (spans l)) {k : Nat} (hk : k < n) :
    ∃ b off s, A = some ⟨b, off, none⟩ ∧ b < B ∧ l[k]? = some s ∧ w.cell? ⟨b, off + k * 3, none⟩ = some (.int .i64 s.f) ∧ w.cell? ⟨b, off + k * 3 + 1, none⟩ = some (.int .i64 s.t) ∧ w.cell? ⟨b, off + k * 3 + 2, none⟩ = some (.int .i64 s.v) := by
  have hl : l.length = n := by have := h.1; rw [spans_length] at this; omega
  obtain ⟨b, off, hA, hb, hc⟩ := h.2 (by rw [spans_length]; omega)
  have hs : l[k]? = some l[k] := List.getElem?_eq_getElem (by omega)
  obtain ⟨h1, h2, h3⟩ := spans_at l k _ hs
  refine ⟨b, off, l[k], hA, hb, hs, hc _ _ h1, ?_, ?_⟩
  · have := hc _ _ h2; rwa [← Nat.add_assoc] at this
  · have := hc _ _ h3; rwa [← Nat.add_assoc] at this

theorem ret_b {a b : Bool} (h : a = b) : Ending.returned (.bool a) = .returned (.bool b) := by rw [h]

set_option maxHeartbeats 2000000 in
theorem rcheck_any (A : Option Addr) (c : Nat) (l : List Rg.Sn) (lo hi : Int) (B : Nat) (w : World) (hr : Rd w B 3 A l.length (spans l)) (hBw : B ≤ w.heap.size) (hl : l.length ≤ 100000000000000000) :
    Calls Try.prog 24 #[.slice A l.length c, .int .i64 lo, .int .i64 hi] w fun e w' => e = .returned (.bool (Rg.check l lo hi)) ∧ Below w.heap.size w w' := by
  have HR := Lib.hid hr; clear hr
  generalize hn : l.length = n at *
  have HN := Lib.hid hn; clear hn
  go_enter Try.func24, Try.ntmps24
  go_wp2
  go_loopw [7, 12] (fun lv i wr => ∃ (k : Nat) (last : Int), k ≤ n ∧ i = .int .i64 k ∧ lv = .int .i64 last ∧ Rg.chk lo hi (-1) l = Rg.chk lo hi last (l.drop k) ∧ Below w.heap.size w wr) (fun _ i _ => n - (intOf i).toNat)
  case atStart => exact ⟨0, -1, by omega, rfl, rfl, rfl, Below.refl _ _⟩
  case round =>
    obtain ⟨k, last, hk, rfl, rfl, hch, hb⟩ := hrel
    have HCH := Lib.hid hch; have HB := Lib.hid hb; clear hch hb
    by_cases hlt : k < n
    · obtain ⟨b, off, s, rfl, hbB, hs, h1, h2, h3⟩ := spans_cell (HR.out.below (HB.out.mono hBw)) hlt
      have hdr : l.drop k = s :: l.drop (k + 1) := by
        obtain ⟨hk', rfl⟩ := List.getElem?_eq_some_iff.1 hs
        exact List.drop_eq_getElem_cons hk'
      have hst : Rg.chk lo hi (-1) l = if s.f ≤ last ∨ s.t < s.f ∨ 1114111 < s.t ∨ s.f < lo ∨ hi < s.t then false else Rg.chk lo hi s.t (l.drop (k + 1)) := by rw [HCH.out, hdr]; rfl
      have HST := Lib.hid hst
      have HB2 := Lib.hid (HB.out.alloc HB.out.size (.cells #[.int .i64 s.f, .int .i64 s.t, .int .i64 s.v] 25))
      clear hst hdr hs HCH
      go_wp2
      case roundEnd =>
        go_roundw
        case rel =>
          refine ⟨k + 1, s.t, by omega, by go_num, rfl, ?_, HB2.out⟩
          have := HST.out
          rw [if_neg (by omega)] at this
          exact this
        case measure => simp [intOf]; omega
      all_goals
        go_ret
        refine ⟨ret_b ?_, HB2.out⟩
        have := HST.out
        rw [if_pos (by omega)] at this
        unfold Rg.check
        rw [this]
        rfl
    · have hkn : k = n := by omega
      have hdn : l.drop k = [] := List.drop_eq_nil_of_le (by have := HN.out; omega)
      have hch : Rg.check l lo hi = decide (n ≤ 256) := by
        unfold Rg.check
        rw [HCH.out, hdn, HN.out]
        simp [Rg.chk]
      have HCK := Lib.hid hch
      clear hch hdn HCH
      go_wp2
      go_ret
      rw [HCK.out]
      refine ⟨ret_b ?_, HB.out⟩
      by_cases h : n ≤ 256
      · simp; omega
      · simp; omega
end Go.Proofs.Ythdfhijahkfjdaa
