/- Punycode: capital letters among the digits. Plain lists, no program in sight. -/
import Derived.Test.YtoihjbiahccaaaaPnUn
namespace Go.Proofs.Ytoihjbiahccaaaa.Pn
set_option linter.unusedVariables false

/-- Alike: digit for digit of one value. -/
def Alike (x y : List UInt8) : Prop := x.map dval = y.map dval
theorem rd_alike : ∀ (x y : List UInt8) (j v w b : Int), Alike x y → (rd x j v w b = none ∧ rd y j v w b = none) ∨ ∃ q r s, rd x j v w b = some (q, r) ∧ rd y j v w b = some (q, s) ∧ Alike r s
  | [], [], _, _, _, _, _ => .inl ⟨rfl, rfl⟩
  | [], _ :: _, _, _, _, _, h => by unfold Alike at h; simp at h
  | _ :: _, [], _, _, _, _, h => by unfold Alike at h; simp at h
  | c :: x, e :: y, j, v, w, b, h => by
    unfold Alike at h
    rw [List.map_cons, List.map_cons] at h
    injection h with h1 h2
    cases hd : dval c with
    | none => exact .inl ⟨rd_bad hd x j v w b, rd_bad (h1 ▸ hd) y j v w b⟩
    | some d =>
      have hd2 : dval e = some d := h1 ▸ hd
      by_cases ht : d < thr j b
      · exact .inr ⟨_, _, _, rd_last hd x j v w b ht, rd_last hd2 y j v w b ht, h2⟩
      · rw [rd_more hd x j v w b ht, rd_more hd2 y j v w b ht]
        exact rd_alike x y (j + 1) _ _ b h2
theorem alike_nil {x y : List UInt8} (h : Alike x y) : x = [] ↔ y = [] := by
  have := congrArg List.length h
  rw [List.length_map, List.length_map] at this
  rw [← List.length_eq_zero_iff, ← List.length_eq_zero_iff, this]
theorem dec_alike : ∀ (f : Nat) (x y : List UInt8) (n i b : Int) (first : Bool) (out : List Int), Alike x y → dec f x n i b first out = dec f y n i b first out
  | 0, _, _, _, _, _, _, _, _ => rfl
  | f + 1, x, y, n, i, b, first, out, h => by
    unfold dec
    by_cases hx : x = []
    · rw [if_pos hx, if_pos ((alike_nil h).1 hx)]
    · rw [if_neg hx, if_neg (fun e => hx ((alike_nil h).2 e))]
      rcases rd_alike x y 0 0 1 b h with ⟨h1, h2⟩ | ⟨q, r, s, h1, h2, h3⟩
      · rw [h1, h2]
      · rw [h1, h2]
        simp only
        split
        · rfl
        · split
          · exact dec_alike f r s _ _ _ _ _ h3
          · rfl
theorem decP_alike (F x y : List UInt8) (hF : F = [] ∨ ∃ G, F = G ++ [45]) (h : Alike x y) (hx : (45 : UInt8) ∉ x) (hy : (45 : UInt8) ∉ y) : decP (F ++ x) = decP (F ++ y) := by
  have hl : x.length = y.length := by have := congrArg List.length h; rwa [List.length_map, List.length_map] at this
  unfold decP
  rw [List.length_append, List.length_append, hl]
  by_cases h1 : 2048 < F.length + y.length
  · rw [if_pos h1, if_pos h1]
  · rw [if_neg h1, if_neg h1]
    rcases hF with rfl | ⟨G, rfl⟩
    · rw [List.nil_append, List.nil_append, lastD_none hx, lastD_none hy, if_neg (by omega), if_neg (by omega)]
      exact dec_alike _ x y _ _ _ _ _ h
    · rw [lastD_split G x hx, lastD_split G y hy]
      by_cases h2 : 0 < G.length
      · have t1 : ∀ z : List UInt8, (G ++ [45] ++ z).take G.length = G := fun z => by rw [List.append_assoc, List.take_left]
        have t2 : ∀ z : List UInt8, (G ++ [45] ++ z).drop (G.length + 1) = z := fun z => by
          have : (G ++ [(45 : UInt8)]).length = G.length + 1 := by simp
          rw [← this, List.drop_left]
        rw [if_pos h2, if_pos h2, t1, t1, t2, t2]
        split
        · exact dec_alike _ x y _ _ _ _ _ h
        · rfl
      · rw [if_neg h2, if_neg h2]
        refine dec_alike _ _ _ _ _ _ _ _ ?_
        unfold Alike
        have h' : x.map dval = y.map dval := h
        simp [List.map_append, h']
theorem front_form (l : List Int) : front l = [] ∨ ∃ G, front l = G ++ [45] := by
  unfold front
  by_cases h : (basics l).length = 0
  · left; rw [if_pos h, List.length_eq_zero_iff.1 h]; rfl
  · right; rw [if_neg h]; exact ⟨_, rfl⟩
/-- Where the digits begin, after k bytes. -/
def stp (T : List UInt8) : Nat → Nat
  | 0 => 0
  | k + 1 => if T[k]? = some 45 then k + 1 else stp T k
theorem stp_le (T : List UInt8) : ∀ k, stp T k ≤ k
  | 0 => Nat.le_refl _
  | k + 1 => by have := stp_le T k; unfold stp; split <;> omega
theorem stp_enc (F D : List UInt8) (hF : F = [] ∨ ∃ G, F = G ++ [45]) (hD : (45 : UInt8) ∉ D) : ∀ k, k ≤ D.length → stp (F ++ D) (F.length + k) = F.length
  | 0, _ => by
    rcases hF with rfl | ⟨G, rfl⟩
    · rfl
    · have hl : (G ++ [(45 : UInt8)]).length = G.length + 1 := by simp
      rw [Nat.add_zero, hl]
      show (if _ then _ else _) = _
      rw [if_pos]
      rw [List.append_assoc, List.getElem?_append_right (Nat.le_refl _), Nat.sub_self]; rfl
  | k + 1, h => by
    show (if (F ++ D)[F.length + k]? = some 45 then _ else stp (F ++ D) (F.length + k)) = _
    rw [if_neg, stp_enc F D hF hD k (by omega)]
    rw [List.getElem?_append_right (by omega), show F.length + k - F.length = k by omega]
    intro e
    exact hD (List.mem_of_getElem? e)
/-- L is T with some letters of the digits made capital; F bytes stand ahead of the digits. -/
def Capd (F : Nat) (T L : List UInt8) : Prop := L.length = T.length ∧ ∀ (j : Nat) (x y : UInt8), L[j]? = some x → T[j]? = some y → (j < F → x = y) ∧ (F ≤ j → dval x = dval y ∧ x ≠ 45)
theorem Capd.start {F D : List UInt8} (hD : (45 : UInt8) ∉ D) : Capd F.length (F ++ D) (F ++ D) := by
  refine ⟨rfl, fun j x y hx hy => ?_⟩
  rw [hx] at hy; injection hy with hy; subst hy
  refine ⟨fun _ => rfl, fun h => ⟨rfl, fun e => ?_⟩⟩
  rw [List.getElem?_append_right h] at hx
  exact hD (e ▸ List.mem_of_getElem? hx)
theorem cap_val {b : UInt8} (h : 97 ≤ b.toNat ∧ b.toNat ≤ 122) : dval (b - 32) = dval b ∧ b - 32 ≠ 45 ∧ ((b - 32).toNat : Int) = (b.toNat : Int) - 32 := by
  have H : ∀ n : Fin 256, 97 ≤ n.1 ∧ n.1 ≤ 122 → dval (UInt8.ofNat n.1 - 32) = dval (UInt8.ofNat n.1) ∧ UInt8.ofNat n.1 - 32 ≠ 45 ∧ ((UInt8.ofNat n.1 - 32).toNat : Int) = (n.1 : Int) - 32 := by decide +kernel
  have := H ⟨b.toNat, b.toNat_lt⟩ h
  simpa only [UInt8.ofNat_toNat] using this
theorem Capd.put {F : Nat} {T L : List UInt8} {k : Nat} {b : UInt8} (h : Capd F T L) (hk : L[k]? = some b) (hF : F ≤ k) (hb : 97 ≤ b.toNat ∧ b.toNat ≤ 122) : Capd F T (L.set k (b - 32)) := by
  obtain ⟨h1, h2⟩ := h
  refine ⟨by rw [List.length_set]; exact h1, fun j x y hx hy => ?_⟩
  by_cases e : j = k
  · subst e
    rw [List.getElem?_set_self (List.getElem?_eq_some_iff.1 hk).1] at hx
    injection hx with hx
    subst hx
    obtain ⟨_, h4⟩ := h2 j b y hk hy
    obtain ⟨c1, c2, _⟩ := cap_val hb
    exact ⟨fun hlt => absurd hlt (by omega), fun _ => ⟨c1.trans (h4 hF).1, c2⟩⟩
  · rw [List.getElem?_set_ne (fun e2 => e e2.symm)] at hx
    exact h2 j x y hx hy
theorem Capd.decP {F D L : List UInt8} (h : Capd F.length (F ++ D) L) (hF : F = [] ∨ ∃ G, F = G ++ [45]) (hD : (45 : UInt8) ∉ D) : decP L = decP (F ++ D) := by
  obtain ⟨h1, h2⟩ := h
  have hlen : F.length ≤ L.length := by rw [h1, List.length_append]; omega
  have e1 : L.take F.length = F := by
    apply List.ext_getElem?
    intro j
    by_cases hj : j < F.length
    · rw [List.getElem?_take_of_lt hj]
      have hL : j < L.length := by omega
      have hT : j < (F ++ D).length := by rw [← h1]; exact hL
      have := (h2 j _ _ (List.getElem?_eq_getElem hL) (List.getElem?_eq_getElem hT)).1 hj
      rw [List.getElem?_eq_getElem hL, this, List.getElem?_eq_getElem hj, List.getElem_append_left hj]
    · rw [List.getElem?_eq_none (by rw [List.length_take]; omega), List.getElem?_eq_none (by omega)]
  have hat : ∀ (i : Nat) (x : UInt8), (L.drop F.length)[i]? = some x → ∃ y, D[i]? = some y ∧ dval x = dval y ∧ x ≠ 45 := by
    intro i x hx
    rw [List.getElem?_drop] at hx
    have hL := (List.getElem?_eq_some_iff.1 hx).1
    have hT : F.length + i < (F ++ D).length := by rw [← h1]; exact hL
    have := (h2 (F.length + i) x _ hx (List.getElem?_eq_getElem hT)).2 (by omega)
    refine ⟨_, ?_, this⟩
    rw [← List.getElem?_eq_getElem hT, List.getElem?_append_right (by omega), show F.length + i - F.length = i by omega]
  have e2 : Alike (L.drop F.length) D := by
    unfold Alike
    apply List.ext_getElem?
    intro i
    rw [List.getElem?_map, List.getElem?_map]
    cases hx : (L.drop F.length)[i]? with
    | none =>
      have : D[i]? = none := by
        rw [List.getElem?_eq_none_iff] at hx ⊢
        rw [List.length_drop, h1, List.length_append] at hx
        omega
      rw [this]
    | some x =>
      obtain ⟨y, h3, h4, _⟩ := hat i x hx
      rw [h3]; simp only [Option.map_some, h4]
  have e3 : (45 : UInt8) ∉ L.drop F.length := by
    intro hm
    obtain ⟨i, hi⟩ := List.getElem?_of_mem hm
    obtain ⟨_, _, _, h5⟩ := hat i 45 hi
    exact h5 rfl
  have e4 : L = F ++ L.drop F.length := by
    conv => lhs; rw [← List.take_append_drop F.length L, e1]
  rw [e4]
  exact decP_alike F _ _ hF e2 e3 hD
theorem enc_form (l : List Int) : ∃ D, enc l = front l ++ D ∧ (45 : UInt8) ∉ D :=
  ⟨_, rfl, not_dash (tl_bd l l.length 128 0 (st0 l) (left_le _ _ _) (inv_start l))⟩
end Go.Proofs.Ytoihjbiahccaaaa.Pn
