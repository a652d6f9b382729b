/- Punycode: what is read; what is written is read back, and what is read is what is written. Plain lists, no program in sight. -/
import Derived.Test.YtoihjbiahccaaaaPnOrd
set_option linter.unusedVariables false
namespace Go.Proofs.Ytoihjbiahccaaaa.Pn
/-! ### What is read -/
def ins (out : List Int) (i : Nat) (c : Int) : List Int := out.take i ++ [c] ++ out.drop i
def dec : Nat → List UInt8 → Int → Int → Int → Bool → List Int → List Int × Int
  | 0, _, _, _, _, _, _ => ([], 0)
  | f + 1, s, n, i, b, first, out =>
    if s = [] then (out, 0) else match rd s 0 0 1 b with
    | none => ([], 12)
    | some (v, r) =>
      if 2147483647 < v ∨ 1114111 < n + (v + i) / (out.length + 1) then ([], 8)
      else if scalar (n + (v + i) / (out.length + 1)) then
        dec f r (n + (v + i) / (out.length + 1)) ((v + i) % (out.length + 1) + 1) (adapt v (out.length + 1) first) false (ins out ((v + i) % (out.length + 1)).toNat (n + (v + i) / (out.length + 1)))
      else ([], 12)
def lastUp (s : List UInt8) : Nat → Nat
  | 0 => 0
  | j + 1 => if s[j]? = some 45 then j else lastUp s j
/-- The place of the last hyphen, or 0. -/
def lastD (s : List UInt8) : Nat := lastUp s s.length
def nums (s : List UInt8) : List Int := s.map (fun b => (b.toNat : Int))
def ascii (s : List UInt8) : Bool := s.all (fun b => decide (b.toNat < 128))
def decP (s : List UInt8) : List Int × Int :=
  if 2048 < s.length then ([], 7)
  else if 0 < lastD s then (if ascii (s.take (lastD s)) then dec (s.length + 1) (s.drop (lastD s + 1)) 128 0 72 true (nums (s.take (lastD s))) else ([], 12))
  else dec (s.length + 1) s 128 0 72 true []
theorem dec_more : ∀ (f : Nat) (s : List UInt8) (n i b : Int) (first : Bool) (out : List Int), s.length < f → ∀ g, s.length < g → dec g s n i b first out = dec f s n i b first out
  | 0, _, _, _, _, _, _, h, _, _ => by omega
  | f + 1, _, _, _, _, _, _, _, 0, hg => by omega
  | f + 1, s, n, i, b, first, out, h, g + 1, hg => by
    unfold dec
    by_cases hs : s = []
    · rw [if_pos hs, if_pos hs]
    · rw [if_neg hs, if_neg hs]
      cases hr : rd s 0 0 1 b with
      | none => rfl
      | some x =>
        obtain ⟨v, r⟩ := x
        have := (rd_bd s 0 0 1 b v r (by omega) (by omega) hr).2.2.1
        simp only
        split
        · rfl
        · split
          · rw [dec_more f r _ _ _ _ _ (by omega) g (by omega)]
          · rfl
theorem lastUp_ge (s : List UInt8) (i : Nat) (hi : s[i]? = some 45) : ∀ j, i < j → i ≤ lastUp s j
  | 0, h => by omega
  | j + 1, h => by
    unfold lastUp
    by_cases hj : s[j]? = some 45
    · rw [if_pos hj]; omega
    · rw [if_neg hj]
      refine lastUp_ge s i hi j ?_
      by_cases e : i = j
      · subst e; exact absurd hi hj
      · omega
theorem lastUp_at (s : List UInt8) : ∀ j, lastUp s j = 0 ∨ (s[lastUp s j]? = some 45 ∧ lastUp s j < j)
  | 0 => .inl rfl
  | j + 1 => by
    unfold lastUp
    by_cases hj : s[j]? = some 45
    · rw [if_pos hj]; exact .inr ⟨hj, by omega⟩
    · rw [if_neg hj]
      rcases lastUp_at s j with h | ⟨h1, h2⟩
      · exact .inl h
      · exact .inr ⟨h1, by omega⟩
theorem lastD_none {s : List UInt8} (h : (45 : UInt8) ∉ s) : lastD s = 0 := by
  rcases lastUp_at s s.length with h1 | ⟨h1, _⟩
  · exact h1
  · exact absurd (List.mem_of_getElem? h1) h
theorem lastD_split (x y : List UInt8) (h : (45 : UInt8) ∉ y) : lastD (x ++ [45] ++ y) = x.length := by
  have hx : (x ++ [45] ++ y)[x.length]? = some 45 := by simp
  have h1 := lastUp_ge _ _ hx (x ++ [45] ++ y).length (by simp)
  have h2 : lastD (x ++ [45] ++ y) ≤ x.length := by
    rcases lastUp_at (x ++ [45] ++ y) (x ++ [45] ++ y).length with h3 | ⟨h3, _⟩
    · unfold lastD; omega
    · unfold lastD
      apply Nat.le_of_not_lt
      intro hlt
      have hle : (x ++ [45]).length ≤ lastUp (x ++ [45] ++ y) (x ++ [45] ++ y).length := by
        have : (x ++ [(45 : UInt8)]).length = x.length + 1 := by simp
        omega
      rw [List.getElem?_append_right hle] at h3
      exact h (List.mem_of_getElem? h3)
  unfold lastD at h2 ⊢
  omega
theorem dgt_ne (d : Int) (h0 : 0 ≤ d) (h1 : d ≤ 35) : dgt d ≠ 45 := by
  intro h
  have := dgt_low d h0 h1
  rw [h] at this
  revert this; decide
theorem dig_bd (v b : Int) (h : 0 ≤ v) : ∀ d ∈ dig v b, 0 ≤ d ∧ d ≤ 35 := digs_bd _ _ _ _ h
theorem scalar_bd {c : Int} (h : scalar c = true) : 0 ≤ c ∧ c ≤ 1114111 := by unfold scalar at h; simp at h; omega

/-! ### What is written is read back -/
def Inv (l : List Int) (m : Int) (k : Nat) (st : St) : Prop := st.n = m ∧ st.i = cle (l.take k) m ∧ st.h = (PL l m k).length
theorem inv_start (l : List Int) : Inv l 128 0 (st0 l) := ⟨rfl, by simp [st0, cle], by rw [PL_start]; rfl⟩
theorem cle_take_le (l : List Int) (c : Int) {k p : Nat} (h : k ≤ p) : cle (l.take k) c ≤ cle (l.take p) c := by
  unfold cle
  have e : l.take k = (l.take p).take k := by rw [List.take_take, Nat.min_eq_left h]
  rw [e]
  exact List.Sublist.countP_le (List.take_sublist _ _)
theorem cle_PL (l : List Int) (m : Int) (k : Nat) : cle (l.take k) m ≤ (PL l m k).length := by
  unfold PL; rw [List.length_append, cle_len]; omega
theorem inv_emit {l : List Int} {m : Int} {k p : Nat} {st : St} (h : IsNext l m k p) (hi : Inv l m k st) : Inv l (l.getD p 0) (p + 1) (emit l st p) := by
  have hp : p < l.length := h.1.1
  refine ⟨rfl, ?_, ?_⟩
  · show ((cle (l.take p) (l.getD p 0) : Nat) : Int) + 1 = _
    rw [List.take_succ_eq_append_getElem hp, ← getD_at hp]
    unfold cle
    rw [List.countP_append]
    simp
  · show st.h + 1 = _
    obtain ⟨h1, h2⟩ := PL_next h
    rw [hi.2.2, h1, h2]
    simp; omega
theorem num_bd {l : List Int} {m : Int} {k p : Nat} {st : St} (h : IsNext l m k p) (hi : Inv l m k st) : 0 ≤ num l st p ∧ num l st p + st.i = (l.getD p 0 - m) * (st.h + 1) + cle (l.take p) (l.getD p 0) ∧ cle (l.take p) (l.getD p 0) ≤ st.h := by
  obtain ⟨i1, i2, i3⟩ := hi
  have hJ : cle (l.take p) (l.getD p 0) ≤ st.h := by
    rw [i3, (PL_next h).1, List.length_append, cle_len]; omega
  have hI : cle (l.take k) m ≤ st.h := by rw [i3]; exact cle_PL l m k
  refine ⟨?_, ?_, hJ⟩
  · unfold num
    rw [i1, i2]
    rcases h.1.2 with h1 | ⟨h1, h2⟩
    · have : 1 * ((st.h : Int) + 1) ≤ (l.getD p 0 - m) * (st.h + 1) := Int.mul_le_mul_of_nonneg_right (by omega) (by omega)
      omega
    · rw [h1]
      have := cle_take_le l m h2
      simp; omega
  · unfold num; rw [i1]; omega
/-- Every number is less than 2^31. -/
theorem num_hi {l : List Int} {m : Int} {k p : Nat} {st : St} (h : IsNext l m k p) (hi : Inv l m k st) (hm : 0 ≤ m) (hl : l.length ≤ 256) (hs : l.getD p 0 ≤ 1114111) : num l st p ≤ 286331153 := by
  obtain ⟨b1, b2, b3⟩ := num_bd h hi
  have hh : st.h < l.length := by
    have h1 := (PL_next h).2
    have h2 := PL_len_le l (l.getD p 0) (p + 1)
    have h3 := (inv_emit h hi).2.2
    have h4 : (emit l st p).h = st.h + 1 := rfl
    omega
  have hi0 : 0 ≤ st.i := by rw [hi.2.1]; omega
  have hc : 0 ≤ l.getD p 0 - m := by have := h.1.2; omega
  have : (l.getD p 0 - m) * ((st.h : Int) + 1) ≤ 1114111 * ((st.h : Int) + 1) := Int.mul_le_mul_of_nonneg_right (by omega) (by omega)
  omega
theorem dec_back (l : List Int) (hs : l.all scalar = true) (hl : l.length ≤ 256) : ∀ (a : Nat) (m : Int) (k : Nat) (st : St), left l m k ≤ a → 0 ≤ m → Inv l m k st →
    ∀ f, ((tl l m k st).map dgt).length < f → dec f ((tl l m k st).map dgt) st.n st.i st.b st.first (PL l m k) = (l, 0)
  | a, m, k, st, ha, hm, hi, f, hf => by
    cases hn : next l m k with
    | none =>
      have hno := next_none hn
      rw [tl_done hno] at hf ⊢
      cases f with
      | zero => simp at hf
      | succ f =>
        unfold dec
        rw [List.map_nil, if_pos rfl, PL_end hno]
    | some p =>
      have hx := next_some hn
      cases a with
      | zero => exact absurd hx.1 (left_zero (by omega) p)
      | succ a =>
        have hlt := left_step hx
        have hp : p < l.length := hx.1.1
        have hsc : scalar (l.getD p 0) = true := by
          rw [getD_at hp]; exact List.all_eq_true.1 hs _ (List.getElem_mem hp)
        have hsb := scalar_bd hsc
        obtain ⟨b1, b2, b3⟩ := num_bd hx hi
        have b4 := num_hi hx hi hm hl hsb.2
        rw [tl_step hx, List.map_append] at hf ⊢
        have hne : dig (num l st p) st.b ≠ [] := digs_ne _ _ _ _
        have hlen : 0 < ((dig (num l st p) st.b).map dgt).length := by
          rw [List.length_map]; exact List.length_pos_iff.2 hne
        cases f with
        | zero => simp at hf
        | succ f =>
          unfold dec
          rw [if_neg (by intro he; rw [List.append_eq_nil_iff] at he; rw [he.1] at hlen; simp at hlen), rd_back _ _ _ b1 (by omega)]
          simp only
          have hPl : (PL l m k).length = st.h := hi.2.2.symm
          have hq : (num l st p + st.i) / (((PL l m k).length : Int) + 1) = l.getD p 0 - m := by
            rw [b2, hPl, Int.add_comm, Int.add_mul_ediv_right _ _ (by omega), Int.ediv_eq_zero_of_lt (by omega) (by omega)]; omega
          have hr : (num l st p + st.i) % (((PL l m k).length : Int) + 1) = cle (l.take p) (l.getD p 0) := by
            rw [b2, hPl, Int.add_comm, Int.add_mul_emod_self_right, Int.emod_eq_of_lt (by omega) (by omega)]
          have hn' : st.n + (l.getD p 0 - m) = l.getD p 0 := by rw [hi.1]; omega
          rw [hq, hr, hn', if_neg (by omega), if_pos hsc]
          have hins : ins (PL l m k) ((cle (l.take p) (l.getD p 0) : Nat) : Int).toNat (l.getD p 0) = PL l (l.getD p 0) (p + 1) := by
            obtain ⟨q1, q2⟩ := PL_next hx
            rw [q1, q2]
            unfold ins
            rw [Int.toNat_natCast, ← cle_len, List.take_left, List.drop_left]
          rw [hins, hPl]
          have hcm : 0 ≤ l.getD p 0 := hsb.1
          exact dec_back l hs hl a (l.getD p 0) (p + 1) (emit l st p) (by omega) hcm (inv_emit hx hi) f (by rw [List.length_append] at hf; omega)
  termination_by a => a
theorem tl_bd (l : List Int) : ∀ (a : Nat) (m : Int) (k : Nat) (st : St), left l m k ≤ a → Inv l m k st → ∀ d ∈ tl l m k st, 0 ≤ d ∧ d ≤ 35
  | a, m, k, st, ha, hi, d, hd => by
    cases hn : next l m k with
    | none => rw [tl_done (next_none hn)] at hd; cases hd
    | some p =>
      have hx := next_some hn
      cases a with
      | zero => exact absurd hx.1 (left_zero (by omega) p)
      | succ a =>
        have hlt := left_step hx
        rw [tl_step hx] at hd
        rcases List.mem_append.1 hd with h | h
        · exact dig_bd _ _ (num_bd hx hi).1 d h
        · exact tl_bd l a _ _ _ (by omega) (inv_emit hx hi) d h
  termination_by a => a
theorem tl_len (l : List Int) (hs : ∀ c ∈ l, c ≤ 1114111) (hl : l.length ≤ 256) : ∀ (a : Nat) (m : Int) (k : Nat) (st : St), left l m k ≤ a → 0 ≤ m → Inv l m k st → (tl l m k st).length ≤ 10 * a
  | a, m, k, st, ha, hm, hi => by
    cases hn : next l m k with
    | none => rw [tl_done (next_none hn)]; simp
    | some p =>
      have hx := next_some hn
      cases a with
      | zero => exact absurd hx.1 (left_zero (by omega) p)
      | succ a =>
        have hlt := left_step hx
        have hp : p < l.length := hx.1.1
        have h1 : l.getD p 0 ≤ 1114111 := by rw [getD_at hp]; exact hs _ (List.getElem_mem hp)
        rw [tl_step hx, List.length_append]
        have h2 := tl_len l hs hl a _ _ _ (by omega) (by have := hx.1.2; omega) (inv_emit hx hi)
        have h3 := num_hi hx hi hm hl h1
        have h4 := digs_len 9 (num l st p) 0 st.b (num_bd hx hi).1 (Int.lt_of_le_of_lt h3 (by decide))
        have h5 : (dig (num l st p) st.b).length ≤ 10 := h4
        omega
  termination_by a => a
theorem not_dash {ds : List Int} (h : ∀ d ∈ ds, 0 ≤ d ∧ d ≤ 35) : (45 : UInt8) ∉ ds.map dgt := by
  intro hm
  obtain ⟨d, hd, he⟩ := List.mem_map.1 hm
  exact dgt_ne d (h d hd).1 (h d hd).2 he
theorem basics_len (l : List Int) : (basics l).length ≤ l.length := List.length_filter_le _ _
theorem enc_len (l : List Int) (hs : ∀ c ∈ l, c ≤ 1114111) (hl : l.length ≤ 256) : (enc l).length ≤ 11 * l.length + 1 := by
  have h1 := tl_len l hs hl l.length 128 0 (st0 l) (left_le _ _ _) (by omega) (inv_start l)
  have h2 := basics_len l
  unfold enc front
  rw [List.length_append, List.length_append, List.length_map, List.length_map]
  split <;> simp <;> omega
theorem byte_num (c : Int) (h0 : 0 ≤ c) (h1 : c < 256) : ((byte c).toNat : Int) = c := by
  unfold byte
  obtain ⟨n, rfl⟩ := Int.eq_ofNat_of_zero_le h0
  simp
  omega
theorem nums_front (l : List Int) (hs : l.all scalar = true) : nums ((basics l).map byte) = basics l ∧ ascii ((basics l).map byte) = true := by
  have hb : ∀ c ∈ basics l, 0 ≤ c ∧ c < 128 := by
    intro c hc
    unfold basics at hc
    obtain ⟨h1, h2⟩ := List.mem_filter.1 hc
    have := scalar_bd (List.all_eq_true.1 hs c h1)
    simp at h2; omega
  constructor
  · unfold nums
    rw [List.map_map]
    conv => rhs; rw [← List.map_id (basics l)]
    apply List.map_congr_left
    intro c hc
    have := hb c hc
    exact byte_num c this.1 (by omega)
  · unfold ascii
    rw [List.all_eq_true]
    intro b hbm
    obtain ⟨c, hc, rfl⟩ := List.mem_map.1 hbm
    have := hb c hc
    have e := byte_num c this.1 (by omega)
    simp; omega
theorem decP_back (l : List Int) (hs : l.all scalar = true) (hl : l.length ≤ 256) (hlen : (enc l).length ≤ 2048) : decP (enc l) = (l, 0) := by
  have hbd := tl_bd l l.length 128 0 (st0 l) (left_le _ _ _) (inv_start l)
  have hnd := not_dash hbd
  have hbk := dec_back l hs hl l.length 128 0 (st0 l) (left_le _ _ _) (by omega) (inv_start l)
  rw [PL_start] at hbk
  obtain ⟨f1, f2⟩ := nums_front l hs
  unfold decP
  rw [if_neg (by omega)]
  by_cases h0 : (basics l).length = 0
  · have hb : basics l = [] := List.eq_nil_of_length_eq_zero h0
    have he : enc l = (tl l 128 0 (st0 l)).map dgt := by unfold enc front; rw [hb]; simp
    rw [he, lastD_none hnd, if_neg (by omega)]
    have := hbk (((tl l 128 0 (st0 l)).map dgt).length + 1) (by omega)
    rw [hb] at this
    exact this
  · have he : enc l = (basics l).map byte ++ [45] ++ (tl l 128 0 (st0 l)).map dgt := by unfold enc front; rw [if_neg h0]
    have hlast : lastD (enc l) = ((basics l).map byte).length := by rw [he]; exact lastD_split _ _ hnd
    have ht : (enc l).take ((basics l).map byte).length = (basics l).map byte := by rw [he, List.append_assoc, List.take_left]
    have hd : (enc l).drop (((basics l).map byte).length + 1) = (tl l 128 0 (st0 l)).map dgt := by
      rw [he, show ((basics l).map byte).length + 1 = ((basics l).map byte ++ [45]).length by simp, List.drop_left]
    rw [hlast, if_pos (by simp; omega), ht, if_pos f2, hd, f1]
    exact hbk _ (by rw [he]; simp; omega)

/-! ### What is read is what is written -/
def fsF (l : List Int) : Nat → Int → Nat → St → St
  | 0, _, _, st => st
  | f + 1, m, k, st => match next l m k with
    | none => st
    | some p => fsF l f (l.getD p 0) (p + 1) (emit l st p)
theorem fsF_more (l : List Int) : ∀ (f : Nat) (m : Int) (k : Nat) (st : St), left l m k ≤ f → ∀ g, left l m k ≤ g → fsF l g m k st = fsF l f m k st
  | 0, m, k, st, h, g, _ => by
    have hn := next_no (left_zero (show left l m k = 0 by omega))
    cases g with
    | zero => rfl
    | succ g => unfold fsF; rw [hn]
  | f + 1, m, k, st, h, g, hg => by
    cases hn : next l m k with
    | none =>
      cases g with
      | zero => unfold fsF; rw [hn]
      | succ g => unfold fsF; rw [hn]
    | some p =>
      have hl := left_step (next_some hn)
      cases g with
      | zero => omega
      | succ g =>
        unfold fsF; rw [hn]; simp only
        rw [fsF_more l f (l.getD p 0) (p + 1) _ (by omega) g (by omega)]
def fs (l : List Int) (m : Int) (k : Nat) (st : St) : St := fsF l l.length m k st
theorem fs_step {l : List Int} {m : Int} {k p : Nat} (h : IsNext l m k p) (st : St) : fs l m k st = fs l (l.getD p 0) (p + 1) (emit l st p) := by
  have hl := left_step h
  have := left_le l m k
  show fsF l l.length m k st = _
  obtain ⟨f, hf⟩ : ∃ f, l.length = f + 1 := ⟨l.length - 1, by omega⟩
  unfold fs
  rw [hf]
  conv => lhs; unfold fsF
  rw [next_of h]
  simp only
  rw [fsF_more l f _ _ _ (by omega) (f + 1) (by omega)]
theorem fs_done {l : List Int} {m : Int} {k : Nat} (h : ∀ q, ¬ Ge l m k q) (st : St) : fs l m k st = st := by
  unfold fs
  cases l.length with
  | zero => rfl
  | succ f => unfold fsF; rw [next_no h]

def sh (a q : Nat) : Nat := if q < a then q else q + 1
theorem get_old (x y : List Int) (c : Int) (q : Nat) : (x ++ [c] ++ y).getD (sh x.length q) 0 = (x ++ y).getD q 0 := by
  unfold sh
  simp only [List.getD_eq_getElem?_getD]
  congr 1
  by_cases h : q < x.length
  · rw [if_pos h, List.append_assoc, List.getElem?_append_left h, List.getElem?_append_left h]
  · rw [if_neg h, List.getElem?_append_right (by simp; omega), List.getElem?_append_right (by omega)]
    congr 1; simp <;> omega
theorem get_new (x y : List Int) (c : Int) : (x ++ [c] ++ y).getD x.length 0 = c := by simp [List.getD_eq_getElem?_getD]
/-- The place that is asked from, in the longer list. -/
def up (a k : Nat) : Nat := if k ≤ a then k else k + 1
theorem ge_old (x y : List Int) (c : Int) (m : Int) (k q : Nat) : Ge (x ++ [c] ++ y) m (up x.length k) (sh x.length q) ↔ Ge (x ++ y) m k q := by
  unfold Ge
  rw [get_old]
  have e1 : sh x.length q < (x ++ [c] ++ y).length ↔ q < (x ++ y).length := by unfold sh; split <;> simp <;> omega
  have e2 : up x.length k ≤ sh x.length q ↔ k ≤ q := by unfold up sh; split <;> split <;> omega
  rw [e1, e2]
theorem place_cases (x : List Int) (q : Nat) : q = x.length ∨ ∃ p, q = sh x.length p := by
  rcases Nat.lt_trichotomy q x.length with h | h | h
  · exact .inr ⟨q, by unfold sh; rw [if_pos h]⟩
  · exact .inl h
  · exact .inr ⟨q - 1, by unfold sh; rw [if_neg (by omega)]; omega⟩
theorem old_lt (x y : List Int) (c : Int) (hx : ∀ e ∈ x, e ≤ c) (hy : ∀ e ∈ y, e < c) (p : Nat) (hp : p < (x ++ y).length) : (x ++ y).getD p 0 < c ∨ ((x ++ y).getD p 0 = c ∧ p < x.length) := by
  by_cases h : p < x.length
  · have e : (x ++ y).getD p 0 = x[p] := by rw [List.getD_eq_getElem?_getD, List.getElem?_append_left h, List.getElem?_eq_getElem h]; rfl
    have := hx x[p] (List.getElem_mem h)
    omega
  · have h2 : p - x.length < y.length := by simp at hp; omega
    have e : (x ++ y).getD p 0 = y[p - x.length] := by rw [List.getD_eq_getElem?_getD, List.getElem?_append_right (by omega), List.getElem?_eq_getElem h2]; rfl
    have := hy _ (List.getElem_mem h2)
    omega
theorem next_old (x y : List Int) (c : Int) (hx : ∀ e ∈ x, e ≤ c) (hy : ∀ e ∈ y, e < c) {m : Int} {k p : Nat} (h : IsNext (x ++ y) m k p) : IsNext (x ++ [c] ++ y) m (up x.length k) (sh x.length p) := by
  refine ⟨(ge_old x y c m k p).2 h.1, fun q hq => ?_⟩
  rcases place_cases x q with rfl | ⟨p', rfl⟩
  · rw [get_old, get_new]
    rcases old_lt x y c hx hy p h.1.1 with h1 | ⟨h1, h2⟩
    · exact .inl h1
    · exact .inr ⟨h1, by unfold sh; rw [if_pos h2]; omega⟩
  · have := h.2 p' ((ge_old x y c m k p').1 hq)
    rw [get_old, get_old]
    have e2 : p ≤ p' → sh x.length p ≤ sh x.length p' := by unfold sh; intro; split <;> split <;> omega
    rcases this with h1 | ⟨h1, h2⟩
    · exact .inl h1
    · exact .inr ⟨h1, e2 h2⟩
theorem num_old (x y : List Int) (c : Int) (hx : ∀ e ∈ x, e ≤ c) (hy : ∀ e ∈ y, e < c) (st : St) (p : Nat) (hp : p < (x ++ y).length) : num (x ++ [c] ++ y) st (sh x.length p) = num (x ++ y) st p ∧ emit (x ++ [c] ++ y) st (sh x.length p) = emit (x ++ y) st p := by
  have e : cle ((x ++ [c] ++ y).take (sh x.length p)) ((x ++ y).getD p 0) = cle ((x ++ y).take p) ((x ++ y).getD p 0) := by
    by_cases h : p < x.length
    · have : sh x.length p = p := by unfold sh; rw [if_pos h]
      rw [this, List.append_assoc, List.take_append_of_le_length (by omega), List.take_append_of_le_length (by omega)]
    · have h1 : sh x.length p = (x ++ [c]).length + (p - x.length) := by unfold sh; rw [if_neg h]; simp; omega
      have h2 : p = x.length + (p - x.length) := by omega
      have h3 := (old_lt x y c hx hy p hp).resolve_right (by omega)
      rw [h1, List.take_length_add_append]
      conv => rhs; rw [show (x ++ y).take p = x ++ y.take (p - x.length) by conv => lhs; rw [h2]
                                                                            rw [List.take_length_add_append]]
      unfold cle
      rw [List.countP_append, List.countP_append, List.countP_append]
      have : List.countP (fun z => decide (z ≤ (x ++ y).getD p 0)) [c] = 0 := by
        rw [List.countP_cons, List.countP_nil, decide_eq_false (by omega)]; rfl
      omega
  have e2 : num (x ++ [c] ++ y) st (sh x.length p) = num (x ++ y) st p := by unfold num; rw [get_old, e]
  refine ⟨e2, ?_⟩
  unfold emit
  rw [e2, get_old, e]
theorem tl_new (x y : List Int) (c : Int) (hx : ∀ e ∈ x, e ≤ c) (hy : ∀ e ∈ y, e < c) : ∀ (a : Nat) (m : Int) (k : Nat) (st : St), left (x ++ y) m k ≤ a → (m < c ∨ (m = c ∧ k ≤ x.length)) →
    tl (x ++ [c] ++ y) m (up x.length k) st = tl (x ++ y) m k st ++ dig (num (x ++ [c] ++ y) (fs (x ++ y) m k st) x.length) (fs (x ++ y) m k st).b ∧
    fs (x ++ [c] ++ y) m (up x.length k) st = emit (x ++ [c] ++ y) (fs (x ++ y) m k st) x.length
  | a, m, k, st, ha, hm => by
    cases hn : next (x ++ y) m k with
    | none =>
      have hno := next_none hn
      have hx' : IsNext (x ++ [c] ++ y) m (up x.length k) x.length := by
        have hg : Ge (x ++ [c] ++ y) m (up x.length k) x.length := by
          refine ⟨by simp <;> omega, ?_⟩
          rw [get_new]
          rcases hm with h | ⟨h1, h2⟩
          · exact .inl h
          · exact .inr ⟨h1.symm, by unfold up; rw [if_pos h2]; exact h2⟩
        refine ⟨hg, fun q hq => ?_⟩
        rcases place_cases x q with rfl | ⟨p', rfl⟩
        · exact .inr ⟨rfl, Nat.le_refl _⟩
        · exact absurd ((ge_old x y c m k p').1 hq) (hno p')
      have hdone : ∀ q, ¬ Ge (x ++ [c] ++ y) c (x.length + 1) q := by
        intro q hq
        have h0 := (ge_after hx' q)
        rw [get_new] at h0
        obtain ⟨h1, h2⟩ := h0.1 hq
        rcases place_cases x q with rfl | ⟨p', rfl⟩
        · exact h2 rfl
        · exact hno p' ((ge_old x y c m k p').1 h1)
      rw [tl_step hx', fs_step hx', tl_done hno, fs_done hno, get_new, tl_done hdone, fs_done hdone]
      simp
    | some p =>
      have hp := next_some hn
      cases a with
      | zero => exact absurd hp.1 (left_zero (by omega) p)
      | succ a =>
        have hlt := left_step hp
        have hpl : p < (x ++ y).length := hp.1.1
        obtain ⟨n1, n2⟩ := num_old x y c hx hy st p hpl
        have hol := old_lt x y c hx hy p hpl
        have hup : sh x.length p + 1 = up x.length (p + 1) := by unfold sh up; split <;> split <;> omega
        have ih := tl_new x y c hx hy a ((x ++ y).getD p 0) (p + 1) (emit (x ++ y) st p) (by omega) (by omega)
        rw [tl_step (next_old x y c hx hy hp), fs_step (next_old x y c hx hy hp), tl_step hp, fs_step hp, get_old, n1, n2, hup, ih.1, ih.2]
        simp
  termination_by a => a

theorem basics_ins (x y : List Int) (c : Int) (hc : 128 ≤ c) : basics (x ++ [c] ++ y) = basics (x ++ y) := by
  unfold basics
  rw [List.filter_append, List.filter_append, List.filter_append]
  have : List.filter (fun c => decide (c < 128)) [c] = [] := by simp; omega
  rw [this]; simp
/-- Whatever has been read so far is what is written for the list so far. -/
theorem enc_dec : ∀ (f : Nat) (s : List UInt8) (n i b : Int) (first : Bool) (out : List Int) (l : List Int) (ds : List Int), noCap s → s.length < f →
    tl out 128 0 (st0 out) = ds → fs out 128 0 (st0 out) = ⟨n, i, b, first, out.length⟩ → 128 ≤ n → 0 ≤ i → i ≤ out.length → (∀ c ∈ out, scalar c = true) →
    (∀ (p : Nat) (e : Int), out[p]? = some e → e ≤ n ∧ (e = n → (p : Int) < i)) → dec f s n i b first out = (l, 0) →
    ∃ ds', s = ds'.map dgt ∧ tl l 128 0 (st0 l) = ds ++ ds' ∧ basics l = basics out ∧ (∀ c ∈ l, scalar c = true) ∧ l.length ≤ out.length + s.length
  | 0, _, _, _, _, _, _, _, _, _, h, _, _, _, _, _, _, _, _ => by omega
  | f + 1, s, n, i, b, first, out, l, ds, hcap, hlen, htl, hfs, hn, hi0, hi1, hsc, hord, h => by
    unfold dec at h
    by_cases hs : s = []
    · rw [if_pos hs] at h
      injection h with h1 h2
      subst h1
      exact ⟨[], by simp [hs], by simp [htl], rfl, hsc, by omega⟩
    · rw [if_neg hs] at h
      cases hr : rd s 0 0 1 b with
      | none => rw [hr] at h; simp at h
      | some z =>
        obtain ⟨v, r⟩ := z
        rw [hr] at h
        simp only at h
        obtain ⟨v0, v1, v2, v3⟩ := rd_bd s 0 0 1 b v r (by omega) (by omega) hr
        by_cases hbig : 2147483647 < v ∨ 1114111 < n + (v + i) / (out.length + 1)
        · rw [if_pos hbig] at h; simp at h
        · rw [if_neg hbig] at h
          by_cases hscal : scalar (n + (v + i) / (out.length + 1)) = true
          · rw [if_pos hscal] at h
            obtain ⟨u, hu0, hu1, hu2⟩ := dig_rd s 0 0 1 b v r hcap (by omega) (by omega) hr (by omega)
            have huv : u = v := by omega
            subst huv
            have hL : (0 : Int) < (out.length : Int) + 1 := by omega
            have hdm := Int.emod_add_mul_ediv (u + i) ((out.length : Int) + 1)
            have hm0 := Int.emod_nonneg (u + i) (show (out.length : Int) + 1 ≠ 0 by omega)
            have hm1 := Int.emod_lt_of_pos (u + i) hL
            have hq0 : 0 ≤ (u + i) / ((out.length : Int) + 1) := Int.ediv_nonneg (by omega) (by omega)
            generalize hq : (u + i) / ((out.length : Int) + 1) = q at *
            generalize hj : (u + i) % ((out.length : Int) + 1) = j at *
            obtain ⟨a, rfl⟩ := Int.eq_ofNat_of_zero_le hm0
            have ha : a ≤ out.length := by omega
            rw [Int.toNat_natCast] at h
            have hx : ∀ e ∈ out.take a, e ≤ n + q := by
              intro e he
              obtain ⟨p, hp⟩ := List.getElem?_of_mem (List.mem_of_mem_take he)
              have := (hord p e hp).1; omega
            have hy : ∀ e ∈ out.drop a, e < n + q := by
              intro e he
              obtain ⟨p, hp⟩ := List.getElem?_of_mem he
              rw [List.getElem?_drop] at hp
              obtain ⟨g1, g2⟩ := hord _ e hp
              by_cases hq1 : q = 0
              · subst hq1
                simp at hdm
                by_cases he2 : e = n
                · have := g2 he2; omega
                · omega
              · omega
            have hxy : out.take a ++ out.drop a = out := List.take_append_drop a out
            have hal : (out.take a).length = a := by simp; omega
            have hnew := tl_new (out.take a) (out.drop a) (n + q) hx hy out.length 128 0 (st0 out) (by rw [hxy]; exact left_le _ _ _) (by omega)
            rw [hxy, hfs, htl, show up (out.take a).length 0 = 0 by unfold up; rw [if_pos (Nat.zero_le _)], hal] at hnew
            have hb : basics (ins out a (n + q)) = basics out := by
              unfold ins; rw [basics_ins _ _ _ (by omega), hxy]
            have hst : st0 (ins out a (n + q)) = st0 out := by unfold st0; rw [hb]
            have hil : (ins out a (n + q)).length = out.length + 1 := by unfold ins; simp; omega
            have hnum : num (ins out a (n + q)) ⟨n, i, b, first, out.length⟩ a = u := by
              unfold num ins
              have e1 : (out.take a ++ [n + q] ++ out.drop a).getD a 0 = n + q := by
                have := get_new (out.take a) (out.drop a) (n + q); rwa [hal] at this
              have e2 : (out.take a ++ [n + q] ++ out.drop a).take a = out.take a := by
                rw [List.append_assoc, List.take_append_of_le_length (by omega), List.take_take, Nat.min_self]
              rw [e1, e2]
              have e3 : cle (out.take a) (n + q) = a := by
                unfold cle
                rw [List.countP_eq_length.2 (fun e he => by simpa using hx e he), hal]
              rw [e3]
              have e4 : (n + q - n) * ((out.length : Int) + 1) = ((out.length : Int) + 1) * q := by rw [show n + q - n = q by omega, Int.mul_comm]
              simp only [e4]
              omega
            have hfs' : fs (ins out a (n + q)) 128 0 (st0 (ins out a (n + q))) = ⟨n + q, (a : Int) + 1, adapt u ((out.length : Int) + 1) first, false, (ins out a (n + q)).length⟩ := by
              rw [hst, hil]
              have h2 := hnew.2
              unfold ins
              rw [h2]
              unfold emit
              have e1 : (out.take a ++ [n + q] ++ out.drop a).getD a 0 = n + q := by
                have := get_new (out.take a) (out.drop a) (n + q); rwa [hal] at this
              have e2 : (out.take a ++ [n + q] ++ out.drop a).take a = out.take a := by
                rw [List.append_assoc, List.take_append_of_le_length (by omega), List.take_take, Nat.min_self]
              have e3 : cle (out.take a) (n + q) = a := by
                unfold cle
                rw [List.countP_eq_length.2 (fun e he => by simpa using hx e he), hal]
              have e4 := hnum
              unfold ins at e4
              rw [e1, e2, e3, e4]
            have htl' : tl (ins out a (n + q)) 128 0 (st0 (ins out a (n + q))) = ds ++ dig u b := by
              rw [hst]
              have h2 := hnew.1
              have e4 := hnum
              unfold ins at e4 ⊢
              rw [h2, e4]
            obtain ⟨ds', k1, k2, k3, k4, k5⟩ := enc_dec f r (n + q) ((a : Int) + 1) (adapt u ((out.length : Int) + 1) first) false (ins out a (n + q)) l (ds ++ dig u b)
              (fun y hy => hcap y (v3.subset hy)) (by omega) htl' hfs' (by omega) (by omega) (by rw [hil]; omega)
              (fun e he => by
                unfold ins at he
                rcases List.mem_append.1 he with he | he
                · rcases List.mem_append.1 he with he | he
                  · exact hsc e (List.mem_of_mem_take he)
                  · have : e = n + q := by simpa using he
                    subst this; exact hscal
                · exact hsc e (List.mem_of_mem_drop he))
              (fun p e hp => by
                unfold ins at hp
                by_cases h1 : p < a
                · rw [List.append_assoc, List.getElem?_append_left (by omega), List.getElem?_take_of_lt h1] at hp
                  have := hord p e hp
                  exact ⟨by omega, fun _ => by omega⟩
                · by_cases h2 : p = a
                  · subst h2
                    rw [List.getElem?_append_left (by simp; omega), List.getElem?_append_right (by omega), hal] at hp
                    simp at hp
                    exact ⟨by omega, fun _ => by omega⟩
                  · rw [List.getElem?_append_right (by simp; omega)] at hp
                    have := hy e (List.mem_of_getElem? hp)
                    exact ⟨by omega, fun h3 => by omega⟩) h
            refine ⟨dig u b ++ ds', ?_, by rw [k2, List.append_assoc], by rw [k3, hb], k4, by rw [hil] at k5; omega⟩
            rw [hu2, k1, List.map_append]
            rfl
          · rw [if_neg hscal] at h; simp at h
theorem nums_scalar (s : List UInt8) (h : ascii s = true) : (∀ c ∈ nums s, scalar c = true) ∧ basics (nums s) = nums s ∧ (nums s).map byte = s := by
  have hb : ∀ b ∈ s, b.toNat < 128 := fun b hb => by have := List.all_eq_true.1 h b hb; simpa using this
  refine ⟨?_, ?_, ?_⟩
  · intro c hc
    obtain ⟨b, hbm, rfl⟩ := List.mem_map.1 hc
    have := hb b hbm
    unfold scalar; simp; omega
  · unfold basics
    rw [List.filter_eq_self]
    intro c hc
    obtain ⟨b, hbm, rfl⟩ := List.mem_map.1 hc
    have := hb b hbm
    simp; omega
  · unfold nums
    rw [List.map_map]
    conv => rhs; rw [← List.map_id s]
    apply List.map_congr_left
    intro b _
    show byte ((b.toNat : Int)) = b
    unfold byte; simp
theorem lastD_at {s : List UInt8} (h : 0 < lastD s) : s = s.take (lastD s) ++ [45] ++ s.drop (lastD s + 1) ∧ lastD s < s.length := by
  rcases lastUp_at s s.length with h1 | ⟨h1, h2⟩
  · unfold lastD at h; omega
  · have hlt : lastD s < s.length := h2
    refine ⟨?_, hlt⟩
    have e : s[lastD s] = 45 := by
      have : s[lastD s]? = some 45 := h1
      rw [List.getElem?_eq_getElem hlt] at this
      injection this
    conv => lhs; rw [← List.take_append_drop (lastD s) s, List.drop_eq_getElem_cons hlt, e]
    simp
theorem encP_dec (t : List UInt8) (l : List Int) (hc : noCap t) (hl : t.length ≤ 200) (h : decP t = (l, 0)) : encP l = (t, 0) := by
  unfold decP at h
  rw [if_neg (by omega)] at h
  by_cases h0 : 0 < lastD t
  · rw [if_pos h0] at h
    by_cases h1 : ascii (t.take (lastD t)) = true
    · rw [if_pos h1] at h
      obtain ⟨n1, n2, n3⟩ := nums_scalar _ h1
      obtain ⟨e1, e2⟩ := lastD_at h0
      have hnl : (nums (t.take (lastD t))).length = lastD t := by unfold nums; simp; omega
      have hno : ∀ q, ¬ Ge (nums (t.take (lastD t))) 128 0 q := by
        rintro q ⟨g1, g2⟩
        have := List.getElem_mem g1
        rw [← getD_at g1] at this
        have hq : (nums (t.take (lastD t))).getD q 0 < 128 := by
          rw [← n2] at this
          unfold basics at this
          have := (List.mem_filter.1 this).2
          rw [show (nums (t.take (lastD t))).filter (fun c => decide (c < 128)) = nums (t.take (lastD t)) from n2] at this
          exact of_decide_eq_true this
        omega
      obtain ⟨ds', k1, k2, k3, k4, k5⟩ := enc_dec _ _ _ _ _ _ _ l [] (fun y hy => hc y (List.mem_of_mem_drop hy)) (by simp; omega) (tl_done hno _)
        (by rw [fs_done hno]; unfold st0; rw [n2]) (by omega) (by omega) (by omega) n1
        (fun p e hp => by
          have hm := List.mem_of_getElem? hp
          rw [← n2] at hm
          unfold basics at hm
          have := (List.mem_filter.1 hm).2
          simp at this
          exact ⟨by omega, fun _ => by omega⟩) h
      rw [hnl] at k5
      have k5' : l.length ≤ 256 := by simp at k5; omega
      unfold encP
      rw [if_neg (by omega), if_pos (List.all_eq_true.2 k4)]
      congr 1
      unfold enc front
      rw [k3, n2, n3, hnl, if_neg (by omega), k2, List.nil_append, ← k1]
      exact e1.symm
    · rw [if_neg h1] at h; simp at h
  · rw [if_neg h0] at h
    have hno : ∀ q, ¬ Ge ([] : List Int) 128 0 q := by rintro q ⟨g1, _⟩; simp at g1
    obtain ⟨ds', k1, k2, k3, k4, k5⟩ := enc_dec _ _ _ _ _ _ _ l [] hc (by omega) (tl_done hno _) (by rw [fs_done hno]; rfl) (by omega) (by omega) (by simp) (by simp) (fun p e hp => by simp at hp) h
    have k5' : l.length ≤ 256 := by simp at k5; omega
    unfold encP
    rw [if_neg (by omega), if_pos (List.all_eq_true.2 k4)]
    congr 1
    unfold enc front
    rw [k3, k2, k1]
    simp [basics]
end Go.Proofs.Ytoihjbiahccaaaa.Pn
