/- sort.Search at this dump (the shelf's contract); the place that it finds in a list of spans. -/
import Derived.Test.YthdfhijahkfjdaaMerged
import Derived.Shelf.SlSorted.Search
namespace Go.Proofs.Ythdfhijahkfjdaa
open Go Go.RowKit Go.Shelf Go.Proofs
set_option linter.unusedVariables false

def search_ren : Go.Shelf.Ren := ⟨fun | 16 => 33 | n => n, fun | 3 => 3 | 4 => 4 | 35 => 58 | 38 => 48 | n => n, fun | n => n⟩
theorem search_lays : SlLaysO.n16 Try.prog search_ren := {
  mixed := by kernel_rfl
  f16 := Try.func33.trans (congrArg some (by kernel_rfl))
  t3 := Try.underlying3
  a3 := Try.isAgg3
  z3 := Try.sizeOf3
  v3 := Try.zeroValue3
  t4 := Try.underlying4
  a4 := Try.isAgg4
  z4 := Try.sizeOf4
  v4 := Try.zeroValue4
  t35 := Try.underlying58
  a35 := Try.isAgg58
  z35 := Try.sizeOf58
  v35 := Try.zeroValue58
  t38 := Try.underlying48
  a38 := Try.isAgg48
  z38 := Try.sizeOf48
  v38 := Try.zeroValue48 }

/-- sort.Search at a function that reads alone: how many places below n are still false. -/
theorem search_any (g : Nat) (cb : Array Value) (n : Nat) (p : Nat → Bool) (w : World) (eg : ∀ args w, (callFunc g args).run Try.prog w = .ok (.enter g args) w) (hsz : n < 4611686018427387904)
    (hf : ∀ (W : World) (i : Nat), i < n → Below w.heap.size w W → Calls Try.prog g (#[.int .i64 i] ++ cb) W fun e w' => e = .returned (.bool (p i)) ∧ ∃ q, w' = W.drewN q)
    (hmono : ∀ a b, a ≤ b → b < n → p a = true → p b = true) :
    Calls Try.prog 33 #[.int .i64 n, .func (.func g) #[] cb] w fun e w' => e = .returned (.int .i64 ((List.range n).countP (fun i => !p i) : Nat)) ∧ Below w.heap.size w w' :=
  (Any.sort_Search search_lays g cb n p w eg hsz (fun m os i hi => (hf _ i hi (below_grown_sl _ w m os (Nat.le_refl _))).mono fun e w' ⟨he, q, hq⟩ => ⟨he, q, #[], by rw [hq, Go.Sort.grow_empty]⟩) hmono).mono
    fun e w' ⟨he, q, os, hq⟩ => ⟨he, by rw [hq]; exact below_grown_sl _ w q os (Nat.le_refl _)⟩

theorem Rg.range_countP (l : List Rg.Sn) (d : Rg.Sn) (f : Rg.Sn → Bool) : (List.range l.length).countP (fun i => f (l.getD i d)) = l.countP f := by
  have h : l = (List.range l.length).map (fun i => l.getD i d) := by
    apply List.ext_getElem
    · simp
    · intro i h1 h2
      simp [h1]
  conv => rhs; rw [h, List.countP_map]
  rfl
theorem Rg.getD_of {l : List Rg.Sn} {i : Nat} {s d : Rg.Sn} (h : l[i]? = some s) : l.getD i d = s := by simp [List.getD_eq_getElem?_getD, h]
theorem Rg.asc_lt : ∀ {l : List Rg.Sn} {x : Int}, Rg.Asc x l → ∀ (i j : Nat) (s u : Rg.Sn), i < j → l[i]? = some s → l[j]? = some u → s.t < u.f
  | [], _, _, i, j, s, u, _, hs, _ => by simp at hs
  | a :: r, x, h, 0, 0, s, u, hij, hs, hu => by omega
  | a :: r, x, h, i + 1, 0, s, u, hij, hs, hu => by omega
  | a :: r, x, h, 0, j + 1, s, u, hij, hs, hu => by
    simp at hs hu
    subst hs
    have := (h.2.2.2.all u (List.mem_of_getElem? hu)).1
    exact this
  | a :: r, x, h, i + 1, j + 1, s, u, hij, hs, hu => by
    simp at hs hu
    exact Rg.asc_lt h.2.2.2 i j s u (by omega) hs hu
def Rg.d0 : Rg.Sn := ⟨0, 0, 0⟩
theorem Rg.mono_t {l : List Rg.Sn} {x : Int} (h : Rg.Asc x l) (c : Int) (a b : Nat) (hab : a ≤ b) (hb : b < l.length) (hp : decide (c ≤ (l.getD a Rg.d0).t) = true) : decide (c ≤ (l.getD b Rg.d0).t) = true := by
  have ha : l[a]? = some l[a] := List.getElem?_eq_getElem (by omega)
  have hb' : l[b]? = some l[b] := List.getElem?_eq_getElem (by omega)
  rw [Rg.getD_of ha] at hp
  rw [Rg.getD_of hb']
  simp at hp ⊢
  by_cases e : a = b
  · subst e; exact hp
  · have h1 := Rg.asc_lt h a b _ _ (by omega) ha hb'
    have h2 := (h.all _ (List.mem_of_getElem? hb')).2.1
    omega
theorem Rg.mono_f {l : List Rg.Sn} {x : Int} (h : Rg.Asc x l) (c : Int) (a b : Nat) (hab : a ≤ b) (hb : b < l.length) (hp : decide (c < (l.getD a Rg.d0).f) = true) : decide (c < (l.getD b Rg.d0).f) = true := by
  have ha : l[a]? = some l[a] := List.getElem?_eq_getElem (by omega)
  have hb' : l[b]? = some l[b] := List.getElem?_eq_getElem (by omega)
  rw [Rg.getD_of ha] at hp
  rw [Rg.getD_of hb']
  simp at hp ⊢
  by_cases e : a = b
  · subst e; exact hp
  · have h1 := Rg.asc_lt h a b _ _ (by omega) ha hb'
    have h2 := (h.all _ (List.mem_of_getElem? ha)).2.1
    omega
/-- The place that Find looks at. -/
def Rg.at_ (l : List Rg.Sn) (c : Int) : Nat := l.countP (fun s => !decide (c ≤ s.t))
theorem Rg.at_le (l : List Rg.Sn) (c : Int) : Rg.at_ l c ≤ l.length := List.countP_le_length
theorem Rg.val_at : ∀ {l : List Rg.Sn} {x : Int}, Rg.Asc x l → ∀ c, Rg.val l c = match l[Rg.at_ l c]? with | none => none | some s => if c < s.f then none else some s.v
  | [], _, _, c => rfl
  | s :: r, x, h, c => by
    obtain ⟨h1, h2, h3, h4⟩ := h
    by_cases ht : s.t < c
    · have e : Rg.at_ (s :: r) c = Rg.at_ r c + 1 := by unfold Rg.at_; rw [List.countP_cons_of_pos (by simp; omega)]
      rw [e, List.getElem?_cons_succ, Rg.val_cons, if_neg (by omega)]
      exact Rg.val_at h4 c
    · have e : Rg.at_ (s :: r) c = 0 := by
        unfold Rg.at_
        rw [List.countP_eq_zero]
        intro u hu
        rcases List.mem_cons.1 hu with rfl | hu
        · simp; omega
        · have := h4.all u hu; simp; omega
      rw [e, List.getElem?_cons_zero, Rg.val_cons]
      simp only
      by_cases hc : c < s.f
      · rw [if_pos hc, if_neg (by omega), Rg.val_asc_none h4 c (by omega)]
      · rw [if_neg hc, if_pos (by omega)]
theorem Rg.place_count : ∀ {l : List Rg.Sn} {x : Int}, Rg.Asc x l → ∀ b, l.countP (fun s => !decide (b < s.f)) = Rg.place l b
  | [], _, _, b => rfl
  | s :: r, x, h, b => by
    obtain ⟨h1, h2, h3, h4⟩ := h
    unfold Rg.place
    by_cases hs : s.f ≤ b
    · rw [List.countP_cons_of_pos (by simp; omega), List.takeWhile_cons_of_pos (by simpa using hs), List.length_cons, Rg.place_count h4 b]
      rfl
    · rw [List.takeWhile_cons_of_neg (by simpa using hs), List.length_nil, List.countP_eq_zero]
      intro u hu
      rcases List.mem_cons.1 hu with rfl | hu
      · simp; omega
      · have := h4.all u hu; simp; omega
theorem Rg.place_le (l : List Rg.Sn) (b : Int) : Rg.place l b ≤ l.length := by
  unfold Rg.place
  exact (List.takeWhile_prefix _).length_le

set_option maxHeartbeats 1000000 in
theorem find_clo (bl bc b off n c : Nat) (x t : Int) (i : Nat) (W : World) (hi : i < n) (hn : n ≤ 1000000000000000) (ha : W.cell? ⟨bl, 0, none⟩ = some (.slice (some ⟨b, off, none⟩) n c)) (hx : W.cell? ⟨bc, 0, none⟩ = some (.int .i64 x))
    (hc : W.cell? ⟨b, off + i * 3 + 1, none⟩ = some (.int .i64 t)) :
    Calls Try.prog 34 (#[.int .i64 i] ++ #[.pointer (some ⟨bl, 0, none⟩), .pointer (some ⟨bc, 0, none⟩)]) W fun e w' => e = .returned (.bool (decide (x ≤ t))) ∧ ∃ q, w' = W.drewN q := by
  have hi1 : (i : Int) < (n : Int) := by omega
  go_enter Try.func34, Try.ntmps34
  go_wp2
  go_quiet (fail)
  go_wp2
  go_ret
  exact ⟨rfl, _, rfl⟩
set_option maxHeartbeats 1000000 in
theorem insert_clo (bl bs b off n c : Nat) (f1 t1 v1 f : Int) (i : Nat) (W : World) (hi : i < n) (hn : n ≤ 1000000000000000) (ha : W.cell? ⟨bl, 0, none⟩ = some (.slice (some ⟨b, off, none⟩) n c)) (hx : W.cell? ⟨bs, 1, none⟩ = some (.int .i64 t1))
    (hc : W.cell? ⟨b, off + i * 3, none⟩ = some (.int .i64 f)) :
    Calls Try.prog 40 (#[.int .i64 i] ++ #[.pointer (some ⟨bl, 0, none⟩), .pointer (some ⟨bs, 0, none⟩)]) W fun e w' => e = .returned (.bool (decide (t1 < f))) ∧ ∃ q, w' = W.drewN q := by
  have hi1 : (i : Int) < (n : Int) := by omega
  go_enter Try.func40, Try.ntmps40
  go_wp2
  go_quiet (fail)
  go_wp2
  go_ret
  exact ⟨rfl, _, rfl⟩
end Go.Proofs.Ythdfhijahkfjdaa
