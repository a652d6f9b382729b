/- split.Strings: the words between full stops; what an accepted name looks like. -/
import Derived.Test.YtddlafcnfdohnaaDoorDNames
import Derived.Test.YtddlafcnfdohnaaDoorSameS
import Derived.Lib.SplitLaws
namespace Go.Proofs.YtddlafcnfdohnaaDoor
open Go Go.RowKit
set_option linter.unusedVariables false

/-- The words between full stops. -/
def cut46 : List UInt8 → List (List UInt8)
  | [] => [[]]
  | b :: r => if b = 46 then [] :: cut46 r else match cut46 r with
    | [] => [[b]]
    | h :: t => (b :: h) :: t
theorem cut46_none : ∀ (l : List UInt8), (46 : UInt8) ∉ l → cut46 l = [l]
  | [], _ => rfl
  | b :: r, h => by
    have hb : ¬ b = 46 := fun e => h (by rw [e]; simp)
    unfold cut46
    rw [if_neg hb, cut46_none r (fun e => h (List.mem_cons_of_mem _ e))]
theorem cut46_dot : ∀ (x r : List UInt8), (46 : UInt8) ∉ x → cut46 (x ++ 46 :: r) = x :: cut46 r
  | [], r, _ => by show cut46 (46 :: r) = _; conv => lhs; unfold cut46; rw [if_pos rfl]
  | b :: x, r, h => by
    have hb : ¬ b = 46 := fun e => h (by rw [e]; simp)
    show cut46 (b :: (x ++ 46 :: r)) = _
    conv => lhs; unfold cut46
    rw [if_neg hb, cut46_dot x r (fun e => h (List.mem_cons_of_mem _ e))]
theorem idx_none : ∀ (l : List UInt8), (46 : UInt8) ∉ l → Lib.index l [46] = -1
  | [], _ => rfl
  | b :: r, h => by
    have hb : ¬ b = 46 := fun e => h (by rw [e]; simp)
    have hp : ([46] : List UInt8).isPrefixOf (b :: r) = false := by simp [List.isPrefixOf, Ne.symm hb]
    rw [Lib.index, hp, idx_none r (fun e => h (List.mem_cons_of_mem _ e))]; rfl
theorem idx_dot : ∀ (x r : List UInt8), (46 : UInt8) ∉ x → Lib.index (x ++ 46 :: r) [46] = (x.length : Int)
  | [], r, _ => by show Lib.index (46 :: r) [46] = _; rw [Lib.index]; simp [List.isPrefixOf]
  | b :: x, r, h => by
    have hb : ¬ b = 46 := fun e => h (by rw [e]; simp)
    have hp : ([46] : List UInt8).isPrefixOf (b :: (x ++ 46 :: r)) = false := by simp [List.isPrefixOf, Ne.symm hb]
    show Lib.index (b :: (x ++ 46 :: r)) [46] = _
    rw [Lib.index, hp, idx_dot x r (fun e => h (List.mem_cons_of_mem _ e))]
    have h1 : ((x.length : Int) == -1) = false := by rw [beq_eq_false_iff_ne]; omega
    rw [h1]
    simp
theorem splitK_cut : ∀ (k : Nat) (l : List UInt8), l.count 46 = k → Lib.splitK [46] 0 k l = cut46 l
  | 0, l, h => by
    have hm : (46 : UInt8) ∉ l := List.count_eq_zero.1 h
    rw [cut46_none l hm]; rfl
  | k + 1, l, h => by
    have hm : (46 : UInt8) ∈ l := by
      by_cases e : (46 : UInt8) ∈ l
      · exact e
      · rw [List.count_eq_zero.2 e] at h; omega
    obtain ⟨x, r, rfl, hx⟩ := List.eq_append_cons_of_mem hm
    have hc : r.count 46 = k := by
      rw [List.count_append, List.count_eq_zero.2 hx, List.count_cons_self] at h; omega
    have hi := idx_dot x r hx
    rw [cut46_dot x r hx, ← splitK_cut k r hc]
    have hne : ((x.length : Int) == -1) = false := by rw [beq_eq_false_iff_ne]; omega
    conv => lhs; unfold Lib.splitK
    rw [hi, hne]
    have e1 : ((x.length : Int)).toNat = x.length := by omega
    rw [e1]
    have e2 : (x ++ 46 :: r).take (x.length + 0) = x := by rw [Nat.add_zero, List.take_left]
    have e3 : (x ++ 46 :: r).drop (x.length + [(46 : UInt8)].length) = r := by
      rw [List.length_singleton, ← List.drop_drop, List.drop_left]; rfl
    rw [e2, e3]; rfl
theorem splitB_cut (s : ByteArray) : (Lib.splitB ⟨#[46]⟩ 0 (Lib.countB s ⟨#[46]⟩) s).map (·.data.toList) = cut46 s.data.toList := by
  rw [Lib.splitB_data]
  refine splitK_cut _ _ ?_
  show _ = Lib.count s.data.toList [46]
  rw [Lib.count_one]
theorem cut46_join : ∀ (ls : List (List UInt8)), ls ≠ [] → (∀ x ∈ ls, (46 : UInt8) ∉ x) → cut46 (Lib.join ls [46]) = ls
  | [], h, _ => absurd rfl h
  | [a], _, h => by rw [Lib.join_one]; exact cut46_none a (h a (by simp))
  | a :: b :: r, _, h => by
    have e : Lib.join (a :: b :: r) [46] = a ++ 46 :: Lib.join (b :: r) [46] := by simp [Lib.join_cons, Lib.joinTail]
    rw [e, cut46_dot a _ (h a (by simp)), cut46_join (b :: r) (by simp) (fun x hx => h x (List.mem_cons_of_mem _ hx))]
theorem data_inj : ∀ (xs ys : List ByteArray), xs.map (·.data.toList) = ys.map (·.data.toList) → xs = ys
  | [], [], _ => rfl
  | [], b :: r, h => by simp at h
  | a :: r, [], h => by simp at h
  | a :: r, b :: t, h => by
    simp only [List.map_cons, List.cons.injEq] at h
    rw [data_inj r t h.2]
    congr 1
    exact ByteArray.ext (Array.toList_inj.1 h.1)
/-- The result of split.Strings. -/
def sStr (s : ByteArray) : List ByteArray := Lib.splitB ⟨#[46]⟩ 0 (Lib.countB s ⟨#[46]⟩) s
theorem sStr_len (s : ByteArray) : (sStr s).length = Lib.countB s ⟨#[46]⟩ + 1 := Lib.splitB_all ⟨#[46]⟩ (by decide) 0 _ s rfl
theorem strings_any (s : ByteArray) (w : World) (h : Sh w) (hs : s.size < 4294967281) : Calls Tryd.prog 14 #[.string s] w (RetS 9 (sStr s) w) := by
  have hl := sStr_len s
  have hle := Lib.countB_le ⟨#[46]⟩ (by decide) s.size s (Nat.le_refl _)
  have HS := Lib.hid (spl_any s w h hs)
  have how : (w.alloc (.cells ((sStr s).map Value.string).toArray 9)).ownsRow w.heap.size 9 1 (.slice (some ⟨w.heap.size, 0, none⟩) (sStr s).length (sStr s).length) (sStr s).length (strs (sStr s)) := by
    have := own_built w w.heap.size 9 ((sStr s).map Value.string).toArray (sStr s).length (by simp) (by unfold maxLen; omega) (Nat.le_refl _)
    simpa [strs] using this
  have HO := Lib.hid how
  clear how h
  go_enter Tryd.func14, Tryd.ntmps14
  go_wp2_with fail
  refine HS.out.mono ?_
  rintro e w1 ⟨rfl, rfl⟩
  go_wp2
  go_ret
  refine ⟨some ⟨w.heap.size, 0, none⟩, (sStr s).length, ?_, HO.out, (Below.refl _ _).alloc (Nat.le_refl _) _⟩
  rw [hl]; rfl
theorem Sp.bad_fine : ∀ (l : List ByteArray) (i : Nat), Sp.bad l i = none → ∀ s ∈ l, 1 ≤ s.size ∧ s.size ≤ 63
  | [], _, _ => fun s hs => by cases hs
  | a :: r, i, h => by
    unfold Sp.bad at h
    split at h
    · cases h
    · split at h
      · cases h
      · intro s hs
        rcases List.mem_cons.1 hs with rfl | hs
        · omega
        · exact Sp.bad_fine r (i + 1) h s hs
/-- What an accepted list looks like, label by label. -/
theorem Sp.chk_each (xs : List ByteArray) (h : (Sp.chk xs).2 = 0) : xs ≠ [] ∧ (∀ s ∈ xs, 1 ≤ s.size ∧ s.size ≤ 63) ∧ xs.length - 1 + Sp.bytes xs ≤ 253 := by
  unfold Sp.chk at h
  by_cases h0 : xs = []
  · rw [if_pos h0] at h; simp at h
  · rw [if_neg h0] at h
    cases hb : Sp.bad xs 0 with
    | some r =>
      rw [hb] at h
      simp only at h
      exact absurd h (Sp.bad_ne xs 0 r hb)
    | none =>
      rw [hb] at h
      simp only at h
      by_cases hc : 127 < xs.length ∨ 253 < xs.length - 1 + Sp.bytes xs
      · rw [if_pos hc] at h; simp at h
      · exact ⟨h0, Sp.bad_fine xs 0 hb, by omega⟩
theorem Sp.bad_val : ∀ (l : List ByteArray) (i : Nat) (r : Int × Int), Sp.bad l i = some r → r.2 = 10 ∨ r.2 = 11
  | [], _, r, h => by simp [Sp.bad] at h
  | a :: t, i, r, h => by
    unfold Sp.bad at h
    split at h
    · injection h with h; subst h; left; rfl
    · split at h
      · injection h with h; subst h; right; rfl
      · exact Sp.bad_val t (i + 1) r h
theorem Sp.chk_val (xs : List ByteArray) (h : ¬ (Sp.chk xs).2 = 0) : (Sp.chk xs).2 = 10 ∨ (Sp.chk xs).2 = 11 := by
  unfold Sp.chk at h ⊢
  by_cases h0 : xs = []
  · rw [if_pos h0]; left; rfl
  · rw [if_neg h0] at h ⊢
    cases hb : Sp.bad xs 0 with
    | some r => exact Sp.bad_val xs 0 r hb
    | none =>
      rw [hb] at h
      simp only at h ⊢
      by_cases hc : 127 < xs.length ∨ 253 < xs.length - 1 + Sp.bytes xs
      · rw [if_pos hc]; right; rfl
      · rw [if_neg hc] at h; exact absurd rfl h
theorem join_len1 (a : ByteArray) (r : List ByteArray) : (Lib.join ((a :: r).map (·.data.toList)) [46]).length = r.length + Sp.bytes (a :: r) := by
  rw [List.map_cons, Lib.join_cons, List.length_append, joinTail_len]
  have e : a.data.toList.length = a.size := by rw [Array.length_toList]; rfl
  simp [Sp.bytes, e]
  omega
theorem Sp.nmj_bd (xs : List ByteArray) (h : (Sp.chk xs).2 = 0) : 1 ≤ (Sp.nmj xs).size ∧ (Sp.nmj xs).size ≤ 253 := by
  obtain ⟨h0, h1, h2⟩ := Sp.chk_each xs h
  cases xs with
  | nil => exact absurd rfl h0
  | cons a r =>
    have e : (Sp.nmj (a :: r)).size = r.length + Sp.bytes (a :: r) := by
      rw [← join_len1 a r]
      unfold Sp.nmj
      show Array.size _ = _
      simp
    have ha := (h1 a (by simp)).1
    have hb : a.size ≤ Sp.bytes (a :: r) := by simp [Sp.bytes]
    simp only [List.length_cons] at h2
    rw [e]; omega
theorem sStr_nmj (xs : List ByteArray) (h0 : xs ≠ []) (hd : ∀ s ∈ xs, ∀ b ∈ s.data.toList, b ≠ 46) : sStr (Sp.nmj xs) = xs := by
  refine data_inj _ _ ?_
  rw [show sStr (Sp.nmj xs) = Lib.splitB ⟨#[46]⟩ 0 (Lib.countB (Sp.nmj xs) ⟨#[46]⟩) (Sp.nmj xs) from rfl, splitB_cut]
  have e : (Sp.nmj xs).data.toList = Lib.join (xs.map (·.data.toList)) [46] := by unfold Sp.nmj; simp
  rw [e]
  refine cut46_join _ (by simpa using h0) ?_
  intro x hx
  obtain ⟨s, hs, rfl⟩ := List.mem_map.1 hx
  intro hm
  exact hd s hs 46 hm rfl
end Go.Proofs.YtddlafcnfdohnaaDoor
