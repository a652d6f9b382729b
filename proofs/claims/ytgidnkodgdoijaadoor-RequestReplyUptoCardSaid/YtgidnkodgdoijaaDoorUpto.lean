/- What the bound on the bulk of the arguments gives: the lengths of slices. -/
import Derived.Test.YtgidnkodgdoijaaDoorRows
import Derived.Test.YtgidnkodgdoijaaDoorFrame
import Derived.JoinedCond
namespace Go.Proofs.YtgidnkodgdoijaaDoor.bulks
open Go Go.RowKit Go.ChangeShapes Go.WideShapes Go.ChangeAt
theorem one_le {H : Type} (d : DataW H) : 1 ≤ Rows.uptoBulk d := by
  cases d with
  | lit l => cases l <;> simp [Rows.uptoBulk]
  | nil => simp [Rows.uptoBulk]
  | ptr d => simp [Rows.uptoBulk]
  | slice elems spare => simp [Rows.uptoBulk]
  | agg parts => simp [Rows.uptoBulk]
  | iface t d => simp [Rows.uptoBulk]
  | map entries => simp [Rows.uptoBulk]
  | held h => simp [Rows.uptoBulk]
theorem part_le {H : Type} {d : DataW H} {l : List (DataW H)} (h : d ∈ l) : Rows.uptoBulk d ≤ Rows.uptoBulkAll l := by
  induction l with
  | nil => cases h
  | cons x r ih =>
    simp only [Rows.uptoBulkAll]
    cases List.mem_cons.1 h with
    | inl e => subst e; omega
    | inr e => have := ih e; omega
theorem length_le {H : Type} (l : List (DataW H)) : l.length ≤ Rows.uptoBulkAll l := by
  induction l with
  | nil => simp [Rows.uptoBulkAll]
  | cons x r ih => have := one_le x; simp only [Rows.uptoBulkAll, List.length_cons]; omega
theorem bound {H : Type} {l : List (DataW H)} (hk : Rows.uptoSmall H l = true) : Rows.uptoBulkAll l ≤ 1048576 := of_decide_eq_true hk
/-- The length of a slice that came in. -/
theorem len_up {H : Type} {enc : TypeId × Value → H} {P : Program} {w : World} {t e : TypeId} {a : Option Addr} {len cap : Nat} {d : DataW H} {p : List MemPlace}
    (ht : P.underlying t = some (.slice e)) (h : DataW.Trod enc P w 0 (fun _ => true) true t (.slice a len cap) d p) : len ≤ Rows.uptoBulk d := by
  obtain ⟨fuel, hf⟩ := h
  rcases DataW.trod_slice ht hf with ⟨hcs, _⟩ | ⟨x, l, c, elems, rest, n, _, hcs, hx, _, _, _, hlen, _⟩
  · simp only [Value.cells, List.cons.injEq, Value.slice.injEq, and_true] at hcs
    omega
  · simp only [Value.cells, List.cons.injEq, Value.slice.injEq, and_true] at hcs
    injection hx with hd _
    rw [hd]
    have := length_le (elems.map (·.1))
    rw [List.length_map] at this
    simp only [Rows.uptoBulk]
    omega
/-- The length of a string that came in. -/
theorem str_up {H : Type} {bytes : List UInt8} {l : List (DataW H)} (hk : Rows.uptoSmall H l = true) (h : (DataW.lit (.string bytes) : DataW H) ∈ l) : bytes.length ≤ 1048576 := by
  have h1 := part_le h
  have h2 := bound hk
  simp only [Rows.uptoBulk] at h1
  omega
theorem all_append {H : Type} : ∀ (l r : List (DataW H)), Rows.uptoBulkAll (l ++ r) = Rows.uptoBulkAll l + Rows.uptoBulkAll r
  | [], r => by simp [Rows.uptoBulkAll]
  | d :: l, r => by simp only [List.cons_append, Rows.uptoBulkAll]; rw [all_append l r]; omega
/-- A slice of strings that came in, with the bound on each. -/
theorem rd_strings_up {H : Type} {enc : TypeId × Value → H} {P : Program} {w : World} {t e : TypeId} {a : Option Addr} {len cap : Nat} {d : DataW H} {p : List MemPlace}
    (ht : P.underlying t = some (.slice e)) (he : P.underlying e = some .string) (hc : P.cellsOf e = 1)
    (h : DataW.Trod enc P w 0 (fun _ => true) true t (.slice a len cap) d p) :
    ∃ xs : List ByteArray, len = xs.length ∧ Rd w w.heap.size 1 a xs.length (Go.Proofs.YtgidnkodgdoijaaDoor.strs xs) ∧ xs.length ≤ maxLen ∧ (∀ s ∈ xs, s.size ≤ maxLen) ∧ ∀ s ∈ xs, s.size ≤ Rows.uptoBulk d := by
  obtain ⟨xs, hl0, hr, h1, h2⟩ := rd_strings ht he hc h
  refine ⟨xs, hl0, hr, h1, h2, fun s hs => ?_⟩
  obtain ⟨fuel, hf⟩ := h
  rcases open_strings ht he hc hf with ⟨hcs, _⟩ | ⟨x, l, c, zs, hcs, _, hl, hm, hz, hd, hcell, hwz⟩
  · simp only [Value.cells, List.cons.injEq, Value.slice.injEq, and_true] at hcs
    obtain ⟨rfl, rfl, rfl⟩ := hcs
    rw [List.eq_nil_of_length_eq_zero hl0.symm] at hs; cases hs
  · simp only [Value.cells, List.cons.injEq, Value.slice.injEq, and_true] at hcs
    obtain ⟨rfl, rfl, rfl⟩ := hcs
    have hz' : zs.length = cap := by simpa using hz
    obtain ⟨i, hi⟩ := List.getElem?_of_mem hs
    have hil := (List.getElem?_eq_some_iff.1 hi).1
    obtain ⟨b, off, u, ha, _, hu, hc1⟩ := hr.at_ hil
    injection ha with ha
    have hus : u = .string s := by
      have : (Go.Proofs.YtgidnkodgdoijaaDoor.strs xs)[i]? = some (.string s) := by simp [Go.Proofs.YtgidnkodgdoijaaDoor.strs, hi]
      rw [this] at hu; exact (Option.some.inj hu).symm
    have hc2 := hcell i (by omega)
    have hsz : zs[i]? = some s := by
      rw [List.getElem?_eq_getElem (by omega)]
      have : s = zs.getD i ByteArray.empty := by
        have e : w.cell? (x.add i) = some (.string s) := by rw [ha, ← hus, show (⟨b, off, none⟩ : Addr).add i = ⟨b, off + i, none⟩ by unfold Addr.add; split <;> simp_all]; exact hc1
        rw [e] at hc2
        injection hc2 with e2
        injection e2
      rw [this, List.getD_eq_getElem?_getD, List.getElem?_eq_getElem (by omega)]; rfl
    have hmem : (DataW.lit (.string s.data.toList) : DataW H) ∈ Go.ChangeShapes.strs (zs.take len) := by
      unfold Go.ChangeShapes.strs
      refine List.mem_map.2 ⟨s, ?_, rfl⟩
      refine List.mem_of_getElem? (i := i) ?_
      rw [List.getElem?_take_of_lt (by omega)]; exact hsz
    injection hd with hd1 _
    subst hd1
    have := part_le hmem
    simp only [Rows.uptoBulk] at this ⊢
    have h8 : s.data.toList.length = s.size := by rw [Array.length_toList]; rfl
    omega
end Go.Proofs.YtgidnkodgdoijaaDoor.bulks
