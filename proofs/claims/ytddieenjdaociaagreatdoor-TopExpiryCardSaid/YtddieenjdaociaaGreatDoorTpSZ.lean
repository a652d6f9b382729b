/- Rows of numbers that the call itself has made, beside those of bytes and strings. -/
import Derived.Test.YtddieenjdaociaaGreatDoorRqSZ
import Derived.Test.YtddieenjdaociaaGreatDoorM02
namespace Go.Proofs.YtddieenjdaociaaGreatDoor
open Go Go.RowKit
set_option linter.unusedVariables false

/-- Element k of a slice of numbers, as a cell. -/
theorem ints_cell {w : World} {B n : Nat} {A : Option Addr} {xs : List Int} (h : Rd w B 1 A n (ints xs)) {k : Nat} (hk : k < n) :
    ∃ b off c, A = some ⟨b, off, none⟩ ∧ b < B ∧ xs[k]? = some c ∧ w.cell? ⟨b, off + k, none⟩ = some (.int .i64 c) := by
  obtain ⟨b, off, u, hA, hb, hu, hc⟩ := h.at_ hk
  rw [ints_at] at hu
  obtain ⟨c, hc1, rfl⟩ := Option.map_eq_some_iff.1 hu
  exact ⟨b, off, c, hA, hb, hc1, hc⟩
/-- Element k of a slice of strings, as a cell. -/
theorem strs_cell {w : World} {B n : Nat} {A : Option Addr} {xs : List ByteArray} (h : Rd w B 1 A n (strs xs)) {k : Nat} (hk : k < n) :
    ∃ b off c, A = some ⟨b, off, none⟩ ∧ b < B ∧ xs[k]? = some c ∧ w.cell? ⟨b, off + k, none⟩ = some (.string c) := by
  obtain ⟨b, off, u, hA, hb, hu, hc⟩ := h.at_ hk
  rw [strs_at] at hu
  obtain ⟨c, hc1, rfl⟩ := Option.map_eq_some_iff.1 hu
  exact ⟨b, off, c, hA, hb, hc1, hc⟩

theorem info_int : (Tryz.prog.info? 3).map (fun i => (i.zero, i.size, i.bytes)) = some (some (.int .i64 0), 1, 8) := by kernel_rfl

theorem ints_one (xs : List Int) : ∀ u ∈ ints xs, u.oneCell' = true := by
  intro u hu
  unfold ints at hu
  obtain ⟨x, _, rfl⟩ := List.mem_map.1 hu
  rfl

/-- append(out, ys...) at []int, out nil or a row of the call's own. -/
theorem app_int {w : World} {ops : Array Oper} {rest : List Oper} {o : Oper} {a : Act} {Q : Exit → Act → World → Prop} (hw : Region.wanted o (yielded ops a.tmps) = true) (s x : Operand)
    (ho : o.op = .call { callee := .builtin .append, args := #[s, x], argTypes := #[28, 28] })
    {base : Nat} {v : Value} {n : Nat} {xs : List Int} (hs : a.eval s = v) (hown : w.ownsRow base 3 1 v n (ints xs))
    {B : Nat} {A : Option Addr} {m c : Nat} {ys : List Int} (hx : a.eval x = .slice A m c) (hr : Rd w B 1 A m (ints ys))
    (hlen : n + m ≤ 17592186044416) (hbase : base ≤ w.heap.size)
    (h : ∀ A' c' w', w'.ownsRow base 3 1 (.slice A' (n + m) c') (n + m) (ints (xs ++ ys)) → w.grownBy w' v.ownBlock →
      ((Value.slice A' (n + m) c').ownBlock = v.ownBlock ∨ (Value.slice A' (n + m) c').ownBlock = some w.heap.size) → wpList Tryz.prog ops Q rest (a.put o.dst (.slice A' (n + m) c')) w') :
    wpList Tryz.prog ops Q (o :: rest) a w := by
  obtain ⟨i0, hi, hz0, hz1, hz2⟩ := info_parts info_int
  refine wpList_app hw s x _ ho base _ i0 (.int .i64 0) 1 8 Tryz.underlying28 hi hz0 hz1 hz2 rfl (by decide) v n (ints xs) hs hown B A m c (ints ys) hx hr (ints_one ys)
    (by unfold maxLen; omega) (by omega) hbase ?_
  intro v' w' h2 h3 h4
  obtain ⟨A', c', rfl⟩ := own_form h2
  rw [← ints_append] at h2
  exact h A' c' w' h2 h3 h4

/-- What a slice literal of one number reads as. -/
theorem rd_one (w : World) (x : Int) : Rd (w.alloc (.cells #[.int .i64 x] 3)) (w.heap.size + 1) 1 (some ⟨w.heap.size, 0, none⟩) 1 (ints [x]) := by
  have := Rd.of_own (own_built w 0 3 #[.int .i64 x] 1 rfl (by decide) (Nat.zero_le _))
  simpa [ints] using this

theorem rd_one_int {w : World} {z : Nat} (hz : w.heap.size = z) (c : Int) : Rd (w.alloc (.cells #[.int .i64 c] 3)) (z + 1) 1 (some ⟨z, 0, none⟩) 1 (ints [c]) := by
  subst hz
  refine ⟨rfl, fun _ => ⟨w.heap.size, 0, rfl, by omega, fun j u hu => ?_⟩⟩
  rw [(Bk.new w 3 _).cell, Nat.zero_add]
  simpa [ints] using hu
end Go.Proofs.YtddieenjdaociaaGreatDoor
