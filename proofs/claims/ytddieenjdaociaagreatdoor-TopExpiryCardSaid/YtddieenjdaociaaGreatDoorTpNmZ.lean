/- The walks of the document's CheckLabels and Name, and of the labels that the law on Check makes. -/
import Derived.Test.YtddieenjdaociaaGreatDoorTpLabZ
import Derived.Test.YtddieenjdaociaaGreatDoorM10
namespace Go.Proofs.YtddieenjdaociaaGreatDoor
open Go Go.RowKit
set_option linter.unusedVariables false

/-- No element: the empty string; the world is as it was. (Whatever the slice's address and capacity: a nil slice too.) (LAID: no walk: one application.) -/
theorem join_none (a : Option Addr) (c : Nat) (sep : ByteArray) (w : World) :
    Calls Tryz.prog 36 #[.slice a 0 c, .string sep] w fun e w' => e = .returned (.string ⟨#[]⟩) ∧ w' = w := Any.strings_Join_none joi_lays joi_extra a c sep w
open Go.RowKit in
/-- strings.Join: "Join concatenates the elements of its first argument to create a single string. The separator string sep is placed between elements in the resulting string.": HOWEVER MANY ELEMENTS. Below the heap's end the world is as it was. (LAID: no walk: one application.) -/
theorem join_some (bk o c : Nat) (xs : List ByteArray) (sep : ByteArray) (w : World) (hcells : ∀ (j : Nat) x, xs[j]? = some x → w.cell? ⟨bk, o + j, none⟩ = some (.string x)) (hbk : bk < w.heap.size) (hN : xs.length ≤ 140737488355328) (hcap : xs.length ≤ c) (hlen : (Lib.join (xs.map (·.data.toList)) sep.data.toList).length ≤ 140737488355328) :
    Calls Tryz.prog 36 #[.slice (some ⟨bk, o, none⟩) xs.length c, .string sep] w fun e w' => e = .returned (.string ⟨(Lib.join (xs.map (·.data.toList)) sep.data.toList).toArray⟩) ∧ Below w.heap.size w w' := Any.strings_Join joi_lays joi_extra bk o c xs sep w hcells hbk hN hcap hlen
theorem Sp.bytes_fine (l : List ByteArray) : ∀ k, Sp.fine l k → Sp.bytes (l.take k) ≤ 63 * k := by
  intro k
  induction k with
  | zero => intro _; simp [Sp.bytes]
  | succ k ih =>
    intro hf
    have h1 := ih (fun j s hj hs => hf j s (by omega) hs)
    cases hk : l[k]? with
    | none =>
      have : l.length ≤ k := List.getElem?_eq_none_iff.1 hk
      rw [List.take_of_length_le (by omega)]; rw [List.take_of_length_le this] at h1; omega
    | some s =>
      have h2 := (hf k s (by omega) hk).2
      rw [Sp.bytes_take l k s hk]; omega
/-- The labels with a full stop between each two, as bytes. -/
def Sp.nmj (xs : List ByteArray) : ByteArray := ⟨(Lib.join (xs.map (·.data.toList)) [46]).toArray⟩
/-- What Name gives. -/
def Sp.nm (xs : List ByteArray) : ByteArray := if (Sp.chk xs).2 = 0 then Sp.nmj xs else ⟨#[]⟩
theorem joinTail_len (r : List ByteArray) : (Lib.joinTail [46] (r.map (·.data.toList))).length = r.length + Sp.bytes r := by
  induction r with
  | nil => rfl
  | cons a r ih =>
    have h : (Lib.joinTail [46] ((a :: r).map (·.data.toList))) = ([46] ++ a.data.toList) ++ Lib.joinTail [46] (r.map (·.data.toList)) := by simp [Lib.joinTail]
    rw [h, List.length_append, ih]
    have e : a.data.toList.length = a.size := by rw [Array.length_toList]; rfl
    simp [Sp.bytes, e]
    omega
theorem join_len8 (xs : List ByteArray) : (Lib.join (xs.map (·.data.toList)) [46]).length ≤ xs.length + Sp.bytes xs := by
  cases xs with
  | nil => simp [Lib.join, Sp.bytes]
  | cons a r =>
    rw [List.map_cons, Lib.join_cons, List.length_append, joinTail_len]
    have e : a.data.toList.length = a.size := by rw [Array.length_toList]; rfl
    simp [Sp.bytes, e]
    omega
theorem join_snoc8 (l : List (List UInt8)) (x : List UInt8) : Lib.join (l ++ [x]) [46] = Lib.join l [46] ++ (if l = [] then [] else [46]) ++ x := by
  cases l with
  | nil => simp [Lib.join_one, Lib.join_nil]
  | cons a r => simp [Lib.join_cons, Lib.joinTail]
theorem Sp.nmj_take (xs : List ByteArray) (k : Nat) (s : ByteArray) (h : xs[k]? = some s) : Sp.nmj (xs.take (k + 1)) = (if k = 0 then Sp.nmj (xs.take k) else Sp.nmj (xs.take k) ++ ⟨#[46]⟩) ++ s := by
  obtain ⟨hk, rfl⟩ := List.getElem?_eq_some_iff.1 h
  unfold Sp.nmj
  rw [List.take_succ_eq_append_getElem hk, List.map_append, List.map_singleton, join_snoc8]
  by_cases h0 : k = 0
  · subst h0
    simp only [List.take_zero, List.map_nil, if_true]
    apply ByteArray.ext
    simp [ByteArray.data_append]
  · have hne : ¬ ((xs.take k).map (·.data.toList)) = [] := by
      intro e
      have h1 := congrArg List.length e
      rw [List.length_map, List.length_take, List.length_nil] at h1
      omega
    rw [if_neg hne, if_neg h0]
    apply ByteArray.ext
    simp [ByteArray.data_append]
theorem Sp.nmj_size (xs : List ByteArray) : (Sp.nmj xs).size ≤ xs.length + Sp.bytes xs := by
  have := join_len8 xs
  show Array.size _ ≤ _
  simpa using this
theorem Sp.bad_ne (l : List ByteArray) : ∀ i r, Sp.bad l i = some r → ¬ r.2 = 0 := by
  induction l with
  | nil => intro i r h; simp [Sp.bad] at h
  | cons s l ih =>
    intro i r h
    unfold Sp.bad at h
    split at h
    · injection h with h; subst h; simp
    · split at h
      · injection h with h; subst h; simp
      · exact ih _ _ h
/-- What an accepted list looks like. -/
theorem Sp.chk_zero (xs : List ByteArray) (h : (Sp.chk xs).2 = 0) : xs.length ≤ 127 ∧ Sp.bytes xs ≤ 253 ∧ xs ≠ [] := by
  unfold Sp.chk at h
  by_cases h0 : xs = []
  · rw [if_pos h0] at h; simp at h
  · rw [if_neg h0] at h
    cases hb : Sp.bad xs 0 with
    | some r =>
      rw [hb] at h
      simp only at h
      exact absurd h (Sp.bad_ne xs 0 r hb)
    | none =>
      rw [hb] at h
      simp only at h
      by_cases hc : 127 < xs.length ∨ 253 < xs.length - 1 + Sp.bytes xs
      · rw [if_pos hc] at h; simp at h
      · exact ⟨by omega, by omega, h0⟩
set_option maxHeartbeats 2000000 in
theorem name_any (A : Option Addr) (c : Nat) (xs : List ByteArray) (B : Nat) (w : World) (hr : Rd w B 1 A xs.length (strs xs)) (hB : B ≤ w.heap.size) (hl : xs.length ≤ 100000000000000000) (hc : xs.length ≤ c) :
    Calls Tryz.prog 176 #[.slice A xs.length c] w fun e w' => e = .returned (.tuple #[.string (Sp.nm xs), .int .i64 (Sp.chk xs).2]) ∧ Below w.heap.size w w' := by
  have HR := Lib.hid hr; clear hr
  have hck := schk_any A c xs B w HR.out hl
  by_cases h0 : (Sp.chk xs).2 = 0
  · obtain ⟨h1, h2, h3⟩ := Sp.chk_zero xs h0
    have hnm : Sp.nm xs = Sp.nmj xs := if_pos h0
    have hjl := join_len8 xs
    obtain ⟨b, off, hA, hb, hcell⟩ := HR.out.2 (by rw [strs_length]; exact List.length_pos_iff.2 h3)
    subst hA
    have hjn := join_some b off c xs ⟨#[46]⟩ w (fun j x hx => hcell j _ (by rw [strs_at, hx]; rfl)) (by omega) (by omega) hc (by show (Lib.join (xs.map (·.data.toList)) [46]).length ≤ _; omega)
    rw [h0] at hck ⊢
    rw [hnm]
    unfold Sp.nmj
    have HCK := Lib.hid hck; have HJN := Lib.hid hjn
    clear hck hjn hcell hnm h0 hjl h3 h2
    generalize (Sp.chk xs).1 = at0 at *
    generalize hn : xs.length = n at *
    go_enter Tryz.func176, Tryz.ntmps176
    go_wp2_with fail
    refine HCK.out.mono ?_
    rintro e w' ⟨rfl, rfl⟩
    go_wp2_with fail
    refine HJN.out.mono ?_
    rintro e w1 ⟨rfl, hb1⟩
    have HB := Lib.hid hb1; clear hb1
    go_wp2
    go_ret2
    exact ⟨rfl, HB.out⟩
  · have hnm : Sp.nm xs = ⟨#[]⟩ := if_neg h0
    rw [hnm]
    have hne : ((Sp.chk xs).2 != 0) = true := by simpa using h0
    have HCK := Lib.hid hck
    clear hck hnm h0
    generalize (Sp.chk xs).1 = at0 at *
    generalize (Sp.chk xs).2 = er at *
    generalize hn : xs.length = n at *
    go_enter Tryz.func176, Tryz.ntmps176
    go_wp2_with fail
    refine HCK.out.mono ?_
    rintro e w' ⟨rfl, rfl⟩
    go_wp2
    go_ret2
    exact ⟨rfl, Below.refl _ _⟩
end Go.Proofs.YtddieenjdaociaaGreatDoor
