/- The reference's Encode, plainly: the block of what is done, counted. -/
import Derived.Test.YtoihjbiahccaaaaReLe
import Derived.Test.YtoihjbiahccaaaaPnLim
namespace Go.Proofs.Ytoihjbiahccaaaa
open Go Go.RowKit
set_option linter.unusedVariables false

/-- How many places before n are done. -/
def cnt (f : Nat → Bool) : Nat → Nat
  | 0 => 0
  | k + 1 => cnt f k + (if f k then 1 else 0)
theorem cnt_le (f : Nat → Bool) : ∀ k, cnt f k ≤ k
  | 0 => Nat.le_refl _
  | k + 1 => by have := cnt_le f k; unfold cnt; split <;> omega
theorem cnt_sel (l : List Int) (f : Nat → Bool) : ∀ k, k ≤ l.length → (Pn.sel (l.take k) 0 f).length = cnt f k
  | 0, _ => rfl
  | k + 1, h => by
    rw [List.take_succ_eq_append_getElem (show k < l.length by omega), Pn.sel_append, List.length_append, cnt_sel l f k (by omega)]
    have : (l.take k).length = k := by rw [List.length_take]; omega
    rw [Nat.zero_add, this]
    show cnt f k + (if f k then [l[k]] else []).length = cnt f k + _
    split <;> rfl
theorem cnt_all {l : List Int} {m : Int} {k : Nat} : cnt (Pn.ng l m k) l.length = (Pn.PL l m k).length := by
  rw [Pn.PL_sel, ← cnt_sel l _ l.length (Nat.le_refl _), List.take_length]
theorem cnt_before {l : List Int} {m : Int} {k p : Nat} (h : Pn.IsNext l m k p) : ∀ q, q ≤ p → cnt (Pn.ng l m k) q = Pn.cle (l.take q) (l.getD p 0)
  | 0, _ => rfl
  | q + 1, hq => by
    have hp := h.1.1
    have hql : q < l.length := by omega
    rw [Pn.cle_succ (List.getElem?_eq_getElem hql)]
    show cnt _ q + (if Pn.ng l m k q = true then 1 else 0) = _
    rw [cnt_before h q (by omega)]
    have hg := Pn.getD_at hql
    have hiff : Pn.ng l m k q = true ↔ l[q] ≤ l.getD p 0 := by
      rw [Pn.ng_iff l m k q hql]
      constructor
      · intro hn
        have h1 := h.1.2
        have h2 : ¬ (m < l.getD q 0 ∨ (l.getD q 0 = m ∧ k ≤ q)) := fun e => hn ⟨hql, e⟩
        rw [hg] at h2
        omega
      · intro hle hG
        have := h.2 q hG
        rw [hg] at this
        omega
    by_cases hb : Pn.ng l m k q = true
    · rw [if_pos hb, if_pos (hiff.1 hb)]
    · rw [if_neg hb, if_neg (fun e => hb (hiff.2 e))]
theorem ng_next {l : List Int} {m : Int} {k p : Nat} (h : Pn.IsNext l m k p) (q : Nat) (hq : q < l.length) : (Pn.ng l m k q || decide (q = p)) = Pn.ng l (l.getD p 0) (p + 1) q := by
  have h1 := Pn.ge_after h q
  have h2 := Pn.ng_iff l m k q hq
  have h3 := Pn.ng_iff l (l.getD p 0) (p + 1) q hq
  cases ha : Pn.ng l m k q
  · have hG : Pn.Ge l m k q := by
      cases Classical.em (Pn.Ge l m k q) with
      | inl h => exact h
      | inr h => exact absurd (h2.2 h) (by rw [ha]; simp)
    by_cases hqp : q = p
    · rw [decide_eq_true hqp, Bool.false_or]
      exact (h3.2 (fun e => (h1.1 e).2 hqp)).symm
    · rw [decide_eq_false hqp, Bool.false_or]
      cases hb : Pn.ng l (l.getD p 0) (p + 1) q
      · rfl
      · exact absurd (h1.2 ⟨hG, hqp⟩) (h3.1 hb)
  · rw [Bool.true_or]
    exact (h3.2 (fun e => h2.1 ha (h1.1 e).1)).symm
/-- The block of what is done. -/
def Dn (w : World) (g n : Nat) (f : Nat → Bool) : Prop := ∃ cs : Array Value, Bk w g 4 cs ∧ cs.size = n ∧ ∀ j, j < n → cs[j]? = some (.bool (f j))
theorem Dn.lt {w : World} {g n : Nat} {f : Nat → Bool} (h : Dn w g n f) : g < w.heap.size := by obtain ⟨cs, h1, _⟩ := h; exact h1.lt
theorem Dn.cell {w : World} {g n : Nat} {f : Nat → Bool} (h : Dn w g n f) (j : Nat) (hj : j < n) : w.cell? ⟨g, j, none⟩ = some (.bool (f j)) ∧ w.frozen? ⟨g, j, none⟩ = false := by
  obtain ⟨cs, h1, h2, h3⟩ := h
  exact ⟨(h1.cell j).trans (h3 j hj), h1.frozen j⟩
theorem Dn.bls {w : World} {g n : Nat} {f : Nat → Bool} (h : Dn w g n f) : Bls w g ((List.range n).map f) := by
  intro j b hj
  rw [List.getElem?_map] at hj
  obtain ⟨i, h1, h2⟩ := Option.map_eq_some_iff.1 hj
  obtain ⟨h3, h4⟩ := List.getElem?_eq_some_iff.1 h1
  rw [List.length_range] at h3
  rw [List.getElem_range] at h4
  subst h4; subst h2
  exact (h.cell j h3).1
theorem Dn.put {w : World} {g n : Nat} {f : Nat → Bool} (h : Dn w g n f) (p : Nat) (hp : p < n) : Dn (w.setCell ⟨g, p, none⟩ (.bool true)) g n (fun j => f j || decide (j = p)) := by
  obtain ⟨cs, h1, h2, h3⟩ := h
  refine ⟨_, h1.set_ p (.bool true), by simp [h2], fun j hj => ?_⟩
  by_cases e : j = p
  · subst e; rw [Array.getElem?_setIfInBounds]; simp; omega
  · rw [Array.getElem?_setIfInBounds_ne (by omega), h3 j hj]; simp [e]
theorem Dn.congr {w : World} {g n : Nat} {f f' : Nat → Bool} (h : Dn w g n f) (he : ∀ j, j < n → f j = f' j) : Dn w g n f' := by
  obtain ⟨cs, h1, h2, h3⟩ := h
  exact ⟨cs, h1, h2, fun j hj => by rw [h3 j hj, he j hj]⟩
theorem Dn.below {w w' : World} {g n B : Nat} {f : Nat → Bool} (h : Dn w g n f) (hb : Below B w w') (hg : g < B) : Dn w' g n f := by
  obtain ⟨cs, h1, h2⟩ := h
  exact ⟨cs, h1.below hb hg, h2⟩
theorem Dn.alloc {w : World} {g n : Nat} {f : Nat → Bool} (h : Dn w g n f) (o : Obj) : Dn (w.alloc o) g n f := by
  obtain ⟨cs, h1, h2⟩ := h
  exact ⟨cs, h1.alloc o, h2⟩
theorem Dn.new (w : World) (n : Nat) : Dn (w.alloc (.cells (madeCells #[.bool false] n) 4)) w.heap.size n (fun _ => false) :=
  ⟨_, Bk.new w _ _, by simp [madeCells], fun j hj => made_at _ n j hj⟩
/-- What least found: the next one, or that none is left. -/
theorem LeAt.next {l : List Int} {m : Int} {k : Nat} {b : Int} (h : LeAt l ((List.range l.length).map (Pn.ng l m k)) l.length b) : (b = -1 ∧ ∀ q, ¬ Pn.Ge l m k q) ∨ ∃ p : Nat, b = (p : Int) ∧ Pn.IsNext l m k p := by
  have hat : ∀ q, q < l.length → ((List.range l.length).map (Pn.ng l m k))[q]? = some (Pn.ng l m k q) := by
    intro q hq
    simp [hq]
  have hge : ∀ q, q < l.length → Pn.ng l m k q = false → Pn.Ge l m k q := by
    intro q hq h
    cases Classical.em (Pn.Ge l m k q) with
    | inl h => exact h
    | inr h2 => have := (Pn.ng_iff l m k q hq).2 h2; rw [h] at this; cases this
  rcases h with ⟨h1, h2⟩ | ⟨p, h1, h2, h3, h4⟩
  · left
    refine ⟨h1, fun q hq => ?_⟩
    have h3 := h2 q hq.1
    rw [hat q hq.1] at h3
    injection h3 with h3
    exact (Pn.ng_iff l m k q hq.1).1 h3 hq
  · right
    rw [hat p h2] at h3
    injection h3 with h3
    refine ⟨p, h1, hge p h2 h3, fun q hq => ?_⟩
    apply h4 q hq.1
    rw [hat q hq.1]
    cases hn : Pn.ng l m k q
    · rfl
    · exact absurd hq ((Pn.ng_iff l m k q hq.1).1 hn)
theorem ng_start (l : List Int) (q : Nat) : Pn.ng l 128 0 q = decide (l.getD q 0 < 128) := by unfold Pn.ng; simp
theorem tl_at {l : List Int} {m : Int} {k : Nat} {st : Pn.St} {pre : List Int} (hpre : pre ++ Pn.tl l m k st = Pn.tl l 128 0 (Pn.st0 l)) (hs : ∀ c ∈ l, c ≤ 1114111) (hl : l.length ≤ 256) : pre.length ≤ 2560 := by
  have h1 := Pn.tl_len l hs hl l.length 128 0 (Pn.st0 l) (Pn.left_le _ _ _) (by omega) (Pn.inv_start l)
  have h2 := congrArg List.length hpre
  rw [List.length_append] at h2
  omega
end Go.Proofs.Ytoihjbiahccaaaa
