/- A slice of slices of numbers: as it is read, and as the call itself makes it. -/
import Derived.Test.YtddieenjdaociaaGreatDoorTpSZ
namespace Go.Proofs.YtddieenjdaociaaGreatDoor
open Go Go.RowKit
set_option linter.unusedVariables false

/-- The slice '.slice A n c' holds the rows yss, in blocks below B. -/
def RdR (w : World) (B : Nat) (A : Option Addr) (yss : List (List Int)) : Prop :=
  ∃ vs : List Value, Rd w B 1 A yss.length vs ∧ ∀ (i : Nat) (ys : List Int), yss[i]? = some ys → ∃ A' c', vs[i]? = some (.slice A' ys.length c') ∧ Rd w B 1 A' ys.length (ints ys)
theorem RdR.below {w w' : World} {B : Nat} {A : Option Addr} {yss : List (List Int)} (h : RdR w B A yss) (hb : Below B w w') : RdR w' B A yss := by
  obtain ⟨vs, h1, h2⟩ := h
  refine ⟨vs, h1.below hb, fun i ys hi => ?_⟩
  obtain ⟨A', c', h3, h4⟩ := h2 i ys hi
  exact ⟨A', c', h3, h4.below hb⟩
theorem RdR.more {w : World} {B B' : Nat} {A : Option Addr} {yss : List (List Int)} (h : RdR w B A yss) (hB : B ≤ B') : RdR w B' A yss := by
  obtain ⟨vs, h1, h2⟩ := h
  refine ⟨vs, h1.more hB, fun i ys hi => ?_⟩
  obtain ⟨A', c', h3, h4⟩ := h2 i ys hi
  exact ⟨A', c', h3, h4.more hB⟩
theorem RdR.drewN {w : World} {B : Nat} {A : Option Addr} {yss : List (List Int)} (h : RdR w B A yss) (k : Nat) : RdR (w.drewN k) B A yss := h
/-- Row k, as a cell and as a slice. -/
theorem RdR.at_ {w : World} {B : Nat} {A : Option Addr} {yss : List (List Int)} (h : RdR w B A yss) {k : Nat} (hk : k < yss.length) :
    ∃ b off ys A' c', A = some ⟨b, off, none⟩ ∧ b < B ∧ yss[k]? = some ys ∧ w.cell? ⟨b, off + k, none⟩ = some (.slice A' ys.length c') ∧ Rd w B 1 A' ys.length (ints ys) := by
  obtain ⟨vs, h1, h2⟩ := h
  obtain ⟨b, off, u, hA, hb, hu, hc⟩ := h1.at_ hk
  obtain ⟨A', c', h3, h4⟩ := h2 k yss[k] (List.getElem?_eq_getElem hk)
  rw [h3] at hu
  injection hu with hu
  subst hu
  exact ⟨b, off, _, A', c', hA, hb, List.getElem?_eq_getElem hk, hc, h4⟩

/-- The rows of the values vs: each a row of numbers of the call's own, in blocks below K. -/
def Rws (w : World) (base K : Nat) (vs : List Value) (yss : List (List Int)) : Prop :=
  vs.length = yss.length ∧ ∀ (i : Nat) (ys : List Int), yss[i]? = some ys → ∃ A c, vs[i]? = some (.slice A ys.length c) ∧ w.ownsRow base 3 1 (.slice A ys.length c) ys.length (ints ys) ∧
    ∀ q, (Value.slice A ys.length c).ownBlock = some q → q < K
theorem Rws.nil_ (w : World) (base K : Nat) : Rws w base K [] [] := ⟨rfl, fun i ys h => by simp at h⟩
theorem Rws.more {w : World} {base K K' : Nat} {vs : List Value} {yss : List (List Int)} (h : Rws w base K vs yss) (hK : K ≤ K') : Rws w base K' vs yss := by
  refine ⟨h.1, fun i ys hi => ?_⟩
  obtain ⟨A, c, h1, h2, h3⟩ := h.2 i ys hi
  exact ⟨A, c, h1, h2, fun q hq => by have := h3 q hq; omega⟩
/-- Only a block from K on, or one that holds no numbers, has been written. -/
theorem Rws.keep {w w' : World} {base K : Nat} {vs : List Value} {yss : List (List Int)} {row : Option Nat} (h : Rws w base K vs yss) (hg : w.grownBy w' row)
    (hr : ∀ q, row = some q → K ≤ q ∨ ∃ cs, w.heap[q]? = some (.cells cs 28 (0, 0))) : Rws w' base K vs yss := by
  refine ⟨h.1, fun i ys hi => ?_⟩
  obtain ⟨A, c, h1, h2, h3⟩ := h.2 i ys hi
  refine ⟨A, c, h1, h2.kept hg ?_, h3⟩
  cases hob : (Value.slice A ys.length c).ownBlock with
  | none => exact .inl rfl
  | some q =>
    refine .inr (fun e => ?_)
    have hq := h3 q hob
    rcases hr q e.symm with hk | ⟨cs, hcs⟩
    · omega
    · rcases h2.2 with ⟨hv, _⟩ | ⟨g, cap, cur, hv, _, hh, _⟩
      · rw [hv] at hob; simp [Value.ownBlock] at hob
      · rw [hv] at hob; simp [Value.ownBlock] at hob
        subst hob
        rw [hh] at hcs; injection hcs with hcs; injection hcs with _ ht; exact absurd ht (by decide)
theorem Rws.snoc {w : World} {base K K' : Nat} {vs : List Value} {yss : List (List Int)} {A : Option Addr} {c : Nat} {ys : List Int} (h : Rws w base K vs yss) (hK : K ≤ K')
    (hl : w.ownsRow base 3 1 (.slice A ys.length c) ys.length (ints ys)) (hq : ∀ q, (Value.slice A ys.length c).ownBlock = some q → q < K') : Rws w base K' (vs ++ [.slice A ys.length c]) (yss ++ [ys]) := by
  refine ⟨by simp [h.1], fun i zs hi => ?_⟩
  by_cases hlt : i < yss.length
  · rw [List.getElem?_append_left hlt] at hi
    obtain ⟨A', c', h1, h2, h3⟩ := h.2 i zs hi
    exact ⟨A', c', by rw [List.getElem?_append_left (by rw [h.1]; exact hlt)]; exact h1, h2, fun q hq => by have := h3 q hq; omega⟩
  · have hi0 : i = yss.length := by
      have := (List.getElem?_eq_some_iff.1 hi).1
      simp at this; omega
    subst hi0
    rw [List.getElem?_append_right (by omega)] at hi
    simp at hi; subst hi
    exact ⟨A, c, by rw [List.getElem?_append_right (by rw [h.1]; omega), h.1]; simp, hl, hq⟩

theorem own_lower {w : World} {base base' : Nat} {e : TypeId} {size n : Nat} {v : Value} {xs : List Value} (h : w.ownsRow base e size v n xs) (hb : base' ≤ base) : w.ownsRow base' e size v n xs := by
  refine ⟨h.1, ?_⟩
  rcases h.2 with h2 | ⟨g, cap, cur, h1, h2, h3⟩
  · exact .inl h2
  · exact .inr ⟨g, cap, cur, h1, by omega, h3⟩
theorem own_heap {w : World} {base : Nat} {e : TypeId} {size n : Nat} {v : Value} {xs : List Value} (h : w.ownsRow base e size v n xs) : ∀ q, v.ownBlock = some q → ∃ cs, w.heap[q]? = some (.cells cs e (0, 0)) := by
  intro q hq
  rcases h.2 with ⟨rfl, _⟩ | ⟨g, cap, cur, rfl, _, hh, _⟩
  · simp [Value.ownBlock] at hq
  · simp [Value.ownBlock] at hq; subst hq; exact ⟨cur, hh⟩
/-- Rows whose elements differ in type lie in different blocks. -/
theorem own_apart {w : World} {b1 b2 : Nat} {e1 e2 : TypeId} {s1 s2 n1 n2 : Nat} {v1 v2 : Value} {xs ys : List Value} (h1 : w.ownsRow b1 e1 s1 v1 n1 xs) (h2 : w.ownsRow b2 e2 s2 v2 n2 ys) (hne : e1 ≠ e2) : v1.ownBlock = none ∨ v1.ownBlock ≠ v2.ownBlock := by
  cases hob : v1.ownBlock with
  | none => exact .inl rfl
  | some q =>
    refine .inr (fun e => ?_)
    obtain ⟨c1, k1⟩ := own_heap h1 q hob
    obtain ⟨c2, k2⟩ := own_heap h2 q e.symm
    rw [k1] at k2; injection k2 with k2; injection k2 with _ ht; exact hne ht
theorem set_snoc {α : Type} (vs : List α) (a b : α) : (vs ++ [a]).set vs.length b = vs ++ [b] := by
  rw [List.set_append_right _ _ (Nat.le_refl _)]; simp
/-- The call returns a new slice of new rows of numbers. -/
def RetR (yss : List (List Int)) (w : World) (e : Ending) (w' : World) : Prop :=
  ∃ A c vs, e = .returned (.slice A yss.length c) ∧ w'.ownsRow w.heap.size 28 1 (.slice A yss.length c) yss.length vs ∧ Rws w' w.heap.size w'.heap.size vs yss ∧ Below w.heap.size w w'
/-- Rows of the call's own, as rows that are read. -/
theorem rdr_of {w' : World} {base : Nat} {A : Option Addr} {c : Nat} {vs : List Value} {yss : List (List Int)} (ho : w'.ownsRow base 28 1 (.slice A yss.length c) yss.length vs) (hr : Rws w' base w'.heap.size vs yss) :
    RdR w' w'.heap.size A yss := by
  refine ⟨vs, Rd.of_own ho, fun i ys hi => ?_⟩
  obtain ⟨A', c', h1, h2, _⟩ := hr.2 i ys hi
  exact ⟨A', c', h1, Rd.of_own h2⟩

theorem info_row : (Tryz.prog.info? 28).map (fun i => (i.zero, i.size, i.bytes)) = some (some (.slice none 0 0), 1, 24) := by kernel_rfl
/-- append(out, row) at [][]int, out a row of the call's own. -/
theorem app_row {w : World} {ops : Array Oper} {rest : List Oper} {o : Oper} {a : Act} {Q : Exit → Act → World → Prop} (hw : Region.wanted o (yielded ops a.tmps) = true) (s x : Operand)
    (ho : o.op = .call { callee := .builtin .append, args := #[s, x], argTypes := #[208, 208] })
    {base : Nat} {v : Value} {n : Nat} {xs : List Value} (hs : a.eval s = v) (hown : w.ownsRow base 28 1 v n xs)
    {B : Nat} {A : Option Addr} {m c : Nat} {ys : List Value} (hx : a.eval x = .slice A m c) (hr : Rd w B 1 A m ys) (h1 : ∀ u ∈ ys, u.oneCell' = true)
    (hlen : n + m ≤ 5000000000000) (hbase : base ≤ w.heap.size)
    (h : ∀ A' c' w', w'.ownsRow base 28 1 (.slice A' (n + m) c') (n + m) (xs ++ ys) → w.grownBy w' v.ownBlock →
      ((Value.slice A' (n + m) c').ownBlock = v.ownBlock ∨ (Value.slice A' (n + m) c').ownBlock = some w.heap.size) → wpList Tryz.prog ops Q rest (a.put o.dst (.slice A' (n + m) c')) w') :
    wpList Tryz.prog ops Q (o :: rest) a w := by
  obtain ⟨i0, hi, hz0, hz1, hz2⟩ := info_parts info_row
  refine wpList_app hw s x _ ho base _ i0 (.slice none 0 0) 1 24 Tryz.underlying208 hi hz0 hz1 hz2 rfl (by decide) v n xs hs hown B A m c ys hx hr h1 (by unfold maxLen; omega) (by omega) hbase ?_
  intro v' w' h2 h3 h4
  obtain ⟨A', c', rfl⟩ := own_form h2
  exact h A' c' w' h2 h3 h4
end Go.Proofs.YtddieenjdaociaaGreatDoor
