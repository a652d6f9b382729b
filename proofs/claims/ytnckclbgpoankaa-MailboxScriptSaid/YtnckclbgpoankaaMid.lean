/- A slice of strings of the call's own that is cut at its head and appended to: where it lies in its block is left open. -/
import Derived.Test.YtnckclbgpoankaaAppend
import Derived.ArgAppend
namespace Go.Proofs.Ytnckclbgpoankaa
open Go Go.RowKit
set_option linter.unusedVariables false

/-- The slice value '.slice A n c' holds the strings xs, in blocks from 'base' on; its spare cells are there. -/
def OwnM (w : World) (base : Nat) (A : Option Addr) (n c : Nat) (xs : List ByteArray) : Prop :=
  xs.length = n ∧ n ≤ c ∧ c ≤ maxLen ∧ ((A = none ∧ c = 0) ∨ ∃ g off, A = some ⟨g, off, none⟩ ∧ base ≤ g ∧ g < w.heap.size ∧
    (∀ j, j < c → (w.cell? ⟨g, off + j, none⟩).isSome = true) ∧ (∀ j, j < c → w.frozen? ⟨g, off + j, none⟩ = false) ∧ ∀ j u, xs[j]? = some u → w.cell? ⟨g, off + j, none⟩ = some (.string u))

theorem OwnM.nil_ (w : World) (base : Nat) : OwnM w base none 0 0 [] := ⟨rfl, Nat.le_refl _, by simp, .inl ⟨rfl, rfl⟩⟩
theorem OwnM.of_own {w : World} {base : Nat} {A : Option Addr} {n c : Nat} {xs : List ByteArray} {e : TypeId} (h : w.ownsRow base e 1 (.slice A n c) n (strs xs)) : OwnM w base A n c xs := by
  have hl : xs.length = n := by have := h.1; simpa [strs] using this
  rcases h.2 with ⟨h1, h2⟩ | ⟨g, cap, cur, hv, hb, hh, hnc, hm, hs, ht⟩
  · injection h1 with hA hn hc
    subst hA; subst hc; subst h2
    exact ⟨hl, Nat.le_refl _, by simp, .inl ⟨rfl, rfl⟩⟩
  · injection hv with hA hn hc
    subst hA; subst hc
    refine ⟨hl, hnc, hm, .inr ⟨g, 0, rfl, hb, (Array.getElem?_eq_some_iff.1 hh).1, fun j hj => ?_, fun j hj => by simp [World.frozen?, hh], fun j u hu => ?_⟩⟩
    · rw [cell_of_row w g (0 + j) cur e (0, 0) hh]
      have : 0 + j < cur.size := by rw [hs]; omega
      rw [Array.getElem?_eq_getElem this]; rfl
    · rw [cell_of_row w g (0 + j) cur e (0, 0) hh]
      have hj : j < n := by rw [← hl]; exact (List.getElem?_eq_some_iff.1 hu).1
      have h1 : (strs xs)[j]? = some (.string u) := by rw [strs_at, hu]; rfl
      rw [← ht, List.getElem?_take, if_pos (by omega)] at h1
      simpa using h1
theorem OwnM.keep {w w' : World} {base : Nat} {A : Option Addr} {n c : Nat} {xs : List ByteArray} {row : Option Nat} (h : OwnM w base A n c xs) (hg : w.grownBy w' row) (hr : ∀ q, row = some q → q < base) : OwnM w' base A n c xs := by
  obtain ⟨h1, h2, h3, h4⟩ := h
  refine ⟨h1, h2, h3, ?_⟩
  rcases h4 with h4 | ⟨g, off, hA, hb, hlt, hc, hf, hx⟩
  · exact .inl h4
  · have hbk : w'.heap[g]? = w.heap[g]? := hg.block g hlt (fun e => by have := hr _ e.symm; omega)
    refine .inr ⟨g, off, hA, hb, Nat.lt_of_lt_of_le hlt hg.size, fun j hj => ?_, fun j hj => ?_, fun j u hu => ?_⟩
    · rw [World.cell?_of_block (w := w) (a := ⟨g, off + j, none⟩) hbk]; exact hc j hj
    · rw [World.frozen?_of_block (w := w) (a := ⟨g, off + j, none⟩) hbk]; exact hf j hj
    · rw [World.cell?_of_block (w := w) (a := ⟨g, off + j, none⟩) hbk]; exact hx j u hu
theorem OwnM.drewN {w : World} {base : Nat} {A : Option Addr} {n c : Nat} {xs : List ByteArray} (h : OwnM w base A n c xs) (m : Nat) : OwnM (w.drewN m) base A n c xs := h
theorem OwnM.alloc {w : World} {base : Nat} {A : Option Addr} {n c : Nat} {xs : List ByteArray} (h : OwnM w base A n c xs) (o : Obj) : OwnM (w.alloc o) base A n c xs :=
  h.keep (World.grownBy_alloc w o none) (fun q hq => by cases hq)
/-- The same as a slice that is read. -/
theorem OwnM.rd {w : World} {base : Nat} {A : Option Addr} {n c : Nat} {xs : List ByteArray} (h : OwnM w base A n c xs) : Rd w w.heap.size 1 A n (strs xs) := by
  obtain ⟨h1, h2, h3, h4⟩ := h
  refine ⟨by rw [strs_length, h1]; omega, fun hn => ?_⟩
  rw [strs_length] at hn
  rcases h4 with ⟨_, hc⟩ | ⟨g, off, hA, hb, hlt, hc, hf, hx⟩
  · omega
  · refine ⟨g, off, hA, hlt, fun j u hu => ?_⟩
    rw [strs_at] at hu
    obtain ⟨s, hs, rfl⟩ := Option.map_eq_some_iff.1 hu
    exact hx j s hs
/-- Without its first element. -/
theorem OwnM.tail {w : World} {base : Nat} {A : Option Addr} {n c : Nat} {t : ByteArray} {xs : List ByteArray} (h : OwnM w base A (n + 1) c (t :: xs)) :
    ∃ g off, A = some ⟨g, off, none⟩ ∧ w.cell? ⟨g, off, none⟩ = some (.string t) ∧ OwnM w base (if c = 1 then some ⟨g, off, none⟩ else some ⟨g, off + 1, none⟩) n (c - 1) xs := by
  obtain ⟨h1, h2, h3, h4⟩ := h
  rcases h4 with ⟨_, hc⟩ | ⟨g, off, hA, hb, hlt, hc, hf, hx⟩
  · omega
  · refine ⟨g, off, hA, by have := hx 0 t rfl; simpa using this, by simpa using h1, by omega, by omega, ?_⟩
    by_cases hc1 : c = 1
    · rw [if_pos hc1]
      have hn0 : xs = [] := List.eq_nil_of_length_eq_zero (by have : xs.length + 1 = n + 1 := by simpa using h1
                                                              omega)
      subst hn0
      exact .inr ⟨g, off, rfl, hb, hlt, fun j hj => by omega, fun j hj => by omega, fun j u hu => by simp at hu⟩
    · rw [if_neg hc1]
      refine .inr ⟨g, off + 1, rfl, hb, hlt, fun j hj => ?_, fun j hj => ?_, fun j u hu => ?_⟩
      · have := hc (j + 1) (by omega); rwa [show off + (j + 1) = off + 1 + j by omega] at this
      · have := hf (j + 1) (by omega); rwa [show off + (j + 1) = off + 1 + j by omega] at this
      · have := hx (j + 1) u (by simpa using hu); rwa [show off + (j + 1) = off + 1 + j by omega] at this

/-- The run of append(list, t). -/
theorem run_mid {w : World} (ty : TypeId) {base : Nat} {A : Option Addr} {n c : Nat} {xs : List ByteArray} (h : OwnM w base A n c xs) (a : Addr) (d : Nat) (t : ByteArray) (hne : ∀ g off, A = some ⟨g, off, none⟩ → a.block ≠ g)
    (ha : w.cell? a = some (.string t)) (hlen : n + 1 ≤ 8796093022208) (hbase : base ≤ w.heap.size) :
    ∃ A' c' w', (Builtin.append_ #[29, 29] ty #[.slice A n c, .slice (some a) 1 d]).run Try.prog w = .ok (.slice A' (n + 1) c') w' ∧ OwnM w' base A' (n + 1) c' (xs ++ [t]) ∧
      w.grownBy w' (Value.slice A n c).ownBlock := by
  obtain ⟨i0, hi, hz0, hz1, hz2⟩ := info_parts info_str
  have hn1 : ∀ j u, [Value.string t][j]? = some u → w.cell? (a.add j) = some u := by
    intro j u hu
    match j, hu with
    | 0, hu => simp at hu; subst hu; simpa [Addr.add] using ha
  have ho1 : ∀ u ∈ [Value.string t], u.oneCell' = true := by intro u hu; simp at hu; subst hu; rfl
  obtain ⟨h1, h2, h3, h4⟩ := h
  rcases h4 with ⟨rfl, rfl⟩ | ⟨g, off, rfl, hb, hlt, hc, hf, hx⟩
  · obtain rfl : n = 0 := by omega
    obtain rfl : xs = [] := List.eq_nil_of_length_eq_zero h1
    obtain ⟨v', w', hrun, hown, hgr, _, _⟩ := run_append_own_at (P := Try.prog) w base 29 ty 9 i0 (.string ByteArray.empty) 1 16 Try.underlying29 hi hz0 hz1 hz2 rfl (by decide) (.slice none 0 0) 0 [] (World.ownsRow_nil _ _ _ _) a 1 d [.string t] rfl hn1 ho1
      (by unfold maxLen; omega) (by omega) hbase
    obtain ⟨A', c', rfl⟩ := own_form hown
    exact ⟨A', c', w', hrun, OwnM.of_own (e := 9) (by simpa [strs] using hown), hgr⟩
  · by_cases hr : n + 1 ≤ c
    · have hrun := run_append_room_cells (P := Try.prog) w 29 ty 9 i0 Try.underlying29 hi g off n c a 1 d [.string t] (by rw [hz1]; rfl) hn1 ho1 hr
        (by rw [hz1]; intro j hj; have hj0 : j = 0 := by simpa using hj
            subst hj0; simpa using hc n (by omega)) (by rw [hz1]; intro j hj; have hj0 : j = 0 := by simpa using hj
                                                        subst hj0; simpa using hf n (by omega))
      rw [hz1] at hrun
      simp only [Nat.mul_one, World.setCells] at hrun
      refine ⟨_, _, _, hrun, ⟨by simp [h1], hr, h3, .inr ⟨g, off, rfl, hb, by simpa [World.setCell] using hlt, fun j hj => ?_, fun j hj => ?_, fun j u hu => ?_⟩⟩, ?_⟩
      · by_cases hjn : j = n
        · subst hjn
          obtain ⟨old, hold⟩ := Option.isSome_iff_exists.1 (hc j hj)
          rw [World.cell?_setCell_same _ _ _ hold]; rfl
        · rw [World.cell?_setCell_other _ _ _ _ (by intro e; injection e with e1 e2; omega)]; exact hc j hj
      · rw [World.frozen?_setCell]; exact hf j hj
      · by_cases hjn : j = n
        · subst hjn
          rw [List.getElem?_append_right (by omega), h1] at hu
          simp at hu; subst hu
          obtain ⟨old, hold⟩ := Option.isSome_iff_exists.1 (hc j (by omega))
          rw [World.cell?_setCell_same _ _ _ hold]
        · have hjl : j < n := by
            have := (List.getElem?_eq_some_iff.1 hu).1
            simp at this; omega
          rw [World.cell?_setCell_other _ _ _ _ (by intro e; injection e with e1 e2; omega)]
          rw [List.getElem?_append_left (by omega)] at hu
          exact hx j u hu
      · exact only_setCell (only_refl _ _) (.inl rfl) _
    · have hcells : ∀ j u, (strs xs)[j]? = some u → w.cell? ((⟨g, off, none⟩ : Addr).add j) = some u := by
        intro j u hu
        rw [strs_at] at hu
        obtain ⟨s, hs, rfl⟩ := Option.map_eq_some_iff.1 hu
        have hadd : (⟨g, off, none⟩ : Addr).add j = ⟨g, off + j, none⟩ := by unfold Addr.add; split <;> simp_all
        rw [hadd]; exact hx j s hs
      obtain ⟨v', w', hrun, hown, hgr⟩ := run_append_arg_grows (P := Try.prog) w 29 ty 9 i0 (.string ByteArray.empty) 1 16 Try.underlying29 hi hz0 hz1 hz2 rfl (by decide) ⟨g, off, none⟩ n c (strs xs) (by rw [strs_length, h1]; omega) hcells
        a 1 d [.string t] rfl hn1 (by omega) (by unfold maxLen; omega) (by omega)
      obtain ⟨A', c', rfl⟩ := own_form hown
      have hown' : w'.ownsRow w.heap.size 9 1 (.slice A' (n + 1) c') (n + 1) (strs (xs ++ [t])) := by rw [strs_append]; exact hown
      have hM := OwnM.of_own hown'
      refine ⟨A', c', w', hrun, ?_, ⟨hgr.os, hgr.tape, hgr.output, hgr.size, fun k hk _ => hgr.block k hk (by simp)⟩⟩
      obtain ⟨p1, p2, p3, p4⟩ := hM
      refine ⟨p1, p2, p3, ?_⟩
      rcases p4 with p4 | ⟨g', off', q1, q2, q3⟩
      · exact .inl p4
      · exact .inr ⟨g', off', q1, by omega, q3⟩
/-- append(list, t), as a law for the walk. -/
theorem app_mid {w : World} {ops : Array Oper} {rest : List Oper} {o : Oper} {a : Act} {Q : Exit → Act → World → Prop} (hw : Region.wanted o (yielded ops a.tmps) = true) (s x : Operand)
    (ho : o.op = .call { callee := .builtin .append, args := #[s, x], argTypes := #[29, 29] })
    {base : Nat} {A : Option Addr} {n c : Nat} {xs : List ByteArray} (hs : a.eval s = .slice A n c) (h0 : OwnM w base A n c xs) (ad : Addr) (d : Nat) (t : ByteArray) (hx : a.eval x = .slice (some ad) 1 d)
    (hne : ∀ g off, A = some ⟨g, off, none⟩ → ad.block ≠ g) (ha : w.cell? ad = some (.string t)) (hlen : n + 1 ≤ 8796093022208) (hbase : base ≤ w.heap.size)
    (h : ∀ A' c' w', OwnM w' base A' (n + 1) c' (xs ++ [t]) → w.grownBy w' (Value.slice A n c).ownBlock → wpList Try.prog ops Q rest (a.put o.dst (.slice A' (n + 1) c')) w') :
    wpList Try.prog ops Q (o :: rest) a w := by
  obtain ⟨A', c', w', h1, h2, h3⟩ := run_mid o.type h0 ad d t hne ha hlen hbase
  refine wpList_step fun K hK => ?_
  rw [if_pos hw]
  unfold Oper.wp execOp
  simp only [ho, resolve, invoke, builtin, Sem.run_bind, Sem.run_pure, Result.andThen_ok, List.map_toArray, List.map_cons, List.map_nil, hs, hx, h1]
  exact hK _ _ (h A' c' w' h2 h3)
end Go.Proofs.Ytnckclbgpoankaa
