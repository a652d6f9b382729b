/- Punycode: the order in which code points are placed, what is written, what is read. Plain lists, no program in sight. -/
import Derived.Test.YtoihjbiahccaaaaPnMath
set_option linter.unusedVariables false
namespace Go.Proofs.Ytoihjbiahccaaaa.Pn
/-! ### The places of a list, by value and by place -/
def Ge (l : List Int) (m : Int) (k p : Nat) : Prop := p < l.length ∧ (m < l.getD p 0 ∨ (l.getD p 0 = m ∧ k ≤ p))
instance (l : List Int) (m : Int) (k p : Nat) : Decidable (Ge l m k p) := by unfold Ge; exact inferInstance
def IsNext (l : List Int) (m : Int) (k p : Nat) : Prop := Ge l m k p ∧ ∀ q, Ge l m k q → l.getD p 0 < l.getD q 0 ∨ (l.getD p 0 = l.getD q 0 ∧ p ≤ q)
/-- The first of the least places that are left, among the first j. -/
def nextUp (l : List Int) (m : Int) (k : Nat) : Nat → Option Nat
  | 0 => none
  | j + 1 => if Ge l m k j then (match nextUp l m k j with | none => some j | some b => if l.getD j 0 < l.getD b 0 then some j else some b) else nextUp l m k j
def next (l : List Int) (m : Int) (k : Nat) : Option Nat := nextUp l m k l.length
theorem nextUp_spec (l : List Int) (m : Int) (k : Nat) : ∀ j, (∀ p, nextUp l m k j = some p → Ge l m k p ∧ p < j ∧ ∀ q, q < j → Ge l m k q → l.getD p 0 < l.getD q 0 ∨ (l.getD p 0 = l.getD q 0 ∧ p ≤ q)) ∧
    (nextUp l m k j = none → ∀ q, q < j → ¬ Ge l m k q)
  | 0 => ⟨fun p h => (by cases h), fun _ q hq => (by omega)⟩
  | j + 1 => by
    obtain ⟨h1, h2⟩ := nextUp_spec l m k j
    by_cases hg : Ge l m k j
    · cases hn : nextUp l m k j with
      | none =>
        have e : nextUp l m k (j + 1) = some j := by unfold nextUp; rw [if_pos hg, hn]
        rw [e]
        refine ⟨fun p hp => ?_, fun h => by cases h⟩
        injection hp with hp; subst hp
        refine ⟨hg, by omega, fun q hq hgq => ?_⟩
        by_cases hqj : q = j
        · subst hqj; exact .inr ⟨rfl, Nat.le_refl _⟩
        · exact absurd hgq (h2 hn q (by omega))
      | some b =>
        obtain ⟨g1, g2, g3⟩ := h1 b hn
        by_cases hlt : l.getD j 0 < l.getD b 0
        · have e : nextUp l m k (j + 1) = some j := by unfold nextUp; rw [if_pos hg, hn]; simp only; rw [if_pos hlt]
          rw [e]
          refine ⟨fun p hp => ?_, fun h => by cases h⟩
          injection hp with hp; subst hp
          refine ⟨hg, by omega, fun q hq hgq => ?_⟩
          by_cases hqj : q = j
          · subst hqj; exact .inr ⟨rfl, Nat.le_refl _⟩
          · have := g3 q (by omega) hgq; exact .inl (by omega)
        · have e : nextUp l m k (j + 1) = some b := by unfold nextUp; rw [if_pos hg, hn]; simp only; rw [if_neg hlt]
          rw [e]
          refine ⟨fun p hp => ?_, fun h => by cases h⟩
          injection hp with hp; subst hp
          refine ⟨g1, by omega, fun q hq hgq => ?_⟩
          by_cases hqj : q = j
          · subst hqj; omega
          · exact g3 q (by omega) hgq
    · have e : nextUp l m k (j + 1) = nextUp l m k j := by conv => lhs; unfold nextUp
                                                           rw [if_neg hg]
      rw [e]
      refine ⟨fun p hp => ?_, fun hn q hq => ?_⟩
      · obtain ⟨g1, g2, g3⟩ := h1 p hp
        refine ⟨g1, by omega, fun q hq hgq => ?_⟩
        by_cases hqj : q = j
        · subst hqj; exact absurd hgq hg
        · exact g3 q (by omega) hgq
      · by_cases hqj : q = j
        · subst hqj; exact hg
        · exact h2 hn q (by omega)
theorem isNext_unique {l : List Int} {m : Int} {k p p' : Nat} (h : IsNext l m k p) (h' : IsNext l m k p') : p = p' := by
  have a := h.2 p' h'.1; have b := h'.2 p h.1; omega
theorem next_some {l : List Int} {m : Int} {k p : Nat} (h : next l m k = some p) : IsNext l m k p := by
  obtain ⟨g1, _, g3⟩ := (nextUp_spec l m k l.length).1 p h
  exact ⟨g1, fun q hq => g3 q hq.1 hq⟩
theorem next_none {l : List Int} {m : Int} {k : Nat} (h : next l m k = none) : ∀ q, ¬ Ge l m k q := fun q hq => (nextUp_spec l m k l.length).2 h q hq.1 hq
theorem next_of {l : List Int} {m : Int} {k p : Nat} (h : IsNext l m k p) : next l m k = some p := by
  cases hn : next l m k with
  | none => exact absurd h.1 (next_none hn p)
  | some q => rw [isNext_unique h (next_some hn)]
theorem next_no {l : List Int} {m : Int} {k : Nat} (h : ∀ q, ¬ Ge l m k q) : next l m k = none := by
  cases hn : next l m k with
  | none => rfl
  | some q => exact absurd (next_some hn).1 (h q)
theorem ge_after {l : List Int} {m : Int} {k p : Nat} (h : IsNext l m k p) (q : Nat) : Ge l (l.getD p 0) (p + 1) q ↔ Ge l m k q ∧ q ≠ p := by
  obtain ⟨h1, h2⟩ := h
  constructor
  · rintro ⟨g1, g2⟩
    refine ⟨⟨g1, ?_⟩, ?_⟩
    · obtain ⟨_, h1⟩ := h1; omega
    · rintro rfl; omega
  · rintro ⟨g1, g2⟩
    have := h2 q g1
    exact ⟨g1.1, by omega⟩

/-! ### What is written -/
structure St where
  n : Int
  i : Int
  b : Int
  first : Bool
  h : Nat
  deriving DecidableEq
def cle (x : List Int) (c : Int) : Nat := x.countP (fun y => decide (y ≤ c))
def num (l : List Int) (st : St) (p : Nat) : Int := (l.getD p 0 - st.n) * (st.h + 1) + cle (l.take p) (l.getD p 0) - st.i
def emit (l : List Int) (st : St) (p : Nat) : St := ⟨l.getD p 0, cle (l.take p) (l.getD p 0) + 1, adapt (num l st p) (st.h + 1) st.first, false, st.h + 1⟩
def tlF (l : List Int) : Nat → Int → Nat → St → List Int
  | 0, _, _, _ => []
  | f + 1, m, k, st => match next l m k with
    | none => []
    | some p => dig (num l st p) st.b ++ tlF l f (l.getD p 0) (p + 1) (emit l st p)
/-- How many places are left. -/
def left (l : List Int) (m : Int) (k : Nat) : Nat := (List.range l.length).countP (fun q => decide (Ge l m k q))
theorem left_le (l : List Int) (m : Int) (k : Nat) : left l m k ≤ l.length := by
  unfold left; have := List.countP_le_length (p := fun q => decide (Ge l m k q)) (l := List.range l.length); simpa using this
theorem left_step {l : List Int} {m : Int} {k p : Nat} (h : IsNext l m k p) : left l (l.getD p 0) (p + 1) < left l m k := by
  unfold left
  have hp : p < l.length := h.1.1
  have key : ∀ n, p < n → n ≤ l.length → (List.range n).countP (fun q => decide (Ge l (l.getD p 0) (p + 1) q)) < (List.range n).countP (fun q => decide (Ge l m k q)) := by
    intro n
    induction n with
    | zero => intro h _; omega
    | succ n ih =>
      intro hn hl
      rw [List.range_succ, List.countP_append, List.countP_append]
      by_cases hpn : p < n
      · have := ih hpn (by omega)
        have hle : List.countP (fun q => decide (Ge l (l.getD p 0) (p + 1) q)) [n] ≤ List.countP (fun q => decide (Ge l m k q)) [n] := by
          apply List.countP_mono_left
          intro q _ hq
          simp only [decide_eq_true_eq] at hq ⊢
          exact ((ge_after h q).1 hq).1
        omega
      · have hpn' : p = n := by omega
        subst hpn'
        have hle : (List.range p).countP (fun q => decide (Ge l (l.getD p 0) (p + 1) q)) ≤ (List.range p).countP (fun q => decide (Ge l m k q)) := by
          apply List.countP_mono_left
          intro q _ hq
          simp only [decide_eq_true_eq] at hq ⊢
          exact ((ge_after h q).1 hq).1
        have h1 : ¬ Ge l (l.getD p 0) (p + 1) p := fun hg => ((ge_after h p).1 hg).2 rfl
        simp only [List.countP_cons, List.countP_nil, h1, h.1, decide_true, decide_false, if_true, if_false, Bool.false_eq_true]
        omega
  exact key l.length hp (Nat.le_refl _)
theorem left_zero {l : List Int} {m : Int} {k : Nat} (h : left l m k = 0) : ∀ q, ¬ Ge l m k q := by
  intro q hq
  unfold left at h
  rw [List.countP_eq_zero] at h
  have := h q (by simp; exact hq.1)
  simp [hq] at this
theorem tlF_more (l : List Int) : ∀ (f : Nat) (m : Int) (k : Nat) (st : St), left l m k ≤ f → ∀ g, left l m k ≤ g → tlF l g m k st = tlF l f m k st
  | 0, m, k, st, h, g, _ => by
    have hn := next_no (left_zero (show left l m k = 0 by omega))
    cases g with
    | zero => rfl
    | succ g => unfold tlF; rw [hn]
  | f + 1, m, k, st, h, g, hg => by
    cases hn : next l m k with
    | none =>
      cases g with
      | zero => unfold tlF; rw [hn]
      | succ g => unfold tlF; rw [hn]
    | some p =>
      have hl := left_step (next_some hn)
      cases g with
      | zero => omega
      | succ g =>
        unfold tlF; rw [hn]; simp only
        rw [tlF_more l f (l.getD p 0) (p + 1) _ (by omega) g (by omega)]
/-- The digits that follow. -/
def tl (l : List Int) (m : Int) (k : Nat) (st : St) : List Int := tlF l l.length m k st
theorem tl_step {l : List Int} {m : Int} {k p : Nat} (h : IsNext l m k p) (st : St) : tl l m k st = dig (num l st p) st.b ++ tl l (l.getD p 0) (p + 1) (emit l st p) := by
  have hl := left_step h
  have := left_le l m k
  show tlF l l.length m k st = _
  obtain ⟨f, hf⟩ : ∃ f, l.length = f + 1 := ⟨l.length - 1, by omega⟩
  unfold tl
  rw [hf]
  conv => lhs; unfold tlF
  rw [next_of h]
  simp only
  rw [tlF_more l f _ _ _ (by omega) (f + 1) (by omega)]
theorem tl_done {l : List Int} {m : Int} {k : Nat} (h : ∀ q, ¬ Ge l m k q) (st : St) : tl l m k st = [] := by
  unfold tl
  cases l.length with
  | zero => rfl
  | succ f => unfold tlF; rw [next_no h]
theorem next_move {l : List Int} {m m' : Int} {k k' : Nat} (h : ∀ q, Ge l m k q ↔ Ge l m' k' q) : next l m k = next l m' k' := by
  cases hn : next l m k with
  | none => exact (next_no (fun q hq => next_none hn q ((h q).2 hq))).symm
  | some p =>
    have := next_some hn
    exact (next_of ⟨(h p).1 this.1, fun q hq => this.2 q ((h q).2 hq)⟩).symm
theorem tl_move {l : List Int} {m m' : Int} {k k' : Nat} (h : ∀ q, Ge l m k q ↔ Ge l m' k' q) (st : St) : tl l m k st = tl l m' k' st := by
  unfold tl
  cases l.length with
  | zero => rfl
  | succ f => unfold tlF; rw [next_move h]
def basics (l : List Int) : List Int := l.filter (fun c => decide (c < 128))
def st0 (l : List Int) : St := ⟨128, 0, 72, true, (basics l).length⟩
def byte (c : Int) : UInt8 := UInt8.ofNat c.toNat
def front (l : List Int) : List UInt8 := (basics l).map byte ++ (if (basics l).length = 0 then [] else [45])
def enc (l : List Int) : List UInt8 := front l ++ (tl l 128 0 (st0 l)).map dgt
def scalar (c : Int) : Bool := decide (0 ≤ c ∧ c ≤ 1114111 ∧ (c < 55296 ∨ 57343 < c))
def encP (l : List Int) : List UInt8 × Int := if 256 < l.length then ([], 7) else if l.all scalar then (enc l, 0) else ([], 3)

/-! ### What has been placed -/
def PL (l : List Int) (m : Int) (k : Nat) : List Int := (l.take k).filter (fun c => decide (c ≤ m)) ++ (l.drop k).filter (fun c => decide (c < m))
/-- The elements at the places of P, o the first place's number. -/
def sel : List Int → Nat → (Nat → Bool) → List Int
  | [], _, _ => []
  | c :: r, o, P => if P o then c :: sel r (o + 1) P else sel r (o + 1) P
theorem sel_append : ∀ (x y : List Int) (o : Nat) (P : Nat → Bool), sel (x ++ y) o P = sel x o P ++ sel y (o + x.length) P
  | [], y, o, P => rfl
  | c :: r, y, o, P => by
    show (if P o then c :: sel (r ++ y) (o + 1) P else sel (r ++ y) (o + 1) P) = (if P o then c :: sel r (o + 1) P else sel r (o + 1) P) ++ _
    rw [sel_append r y (o + 1) P, show o + 1 + r.length = o + (c :: r).length by simp; omega]
    split <;> simp
theorem sel_congr : ∀ (x : List Int) (o : Nat) (P Q : Nat → Bool), (∀ q, q < x.length → P (o + q) = Q (o + q)) → sel x o P = sel x o Q
  | [], _, _, _, _ => rfl
  | c :: r, o, P, Q, h => by
    have h0 := h 0 (by simp)
    simp only [Nat.add_zero] at h0
    show (if P o then c :: sel r (o + 1) P else sel r (o + 1) P) = (if Q o then c :: sel r (o + 1) Q else sel r (o + 1) Q)
    rw [h0, sel_congr r (o + 1) P Q (fun q hq => by have := h (q + 1) (by simp; omega); rwa [show o + 1 + q = o + (q + 1) by omega])]
theorem sel_filter : ∀ (x : List Int) (o : Nat) (P : Nat → Bool) (f : Int → Bool), (∀ q c, x[q]? = some c → P (o + q) = f c) → sel x o P = x.filter f
  | [], _, _, _, _ => rfl
  | c :: r, o, P, f, h => by
    have h0 := h 0 c (by simp)
    simp only [Nat.add_zero] at h0
    show (if P o then c :: sel r (o + 1) P else sel r (o + 1) P) = _
    rw [h0, sel_filter r (o + 1) P f (fun q d hq => by have := h (q + 1) d (by simpa using hq); rwa [show o + 1 + q = o + (q + 1) by omega]), List.filter_cons]
def ng (l : List Int) (m : Int) (k q : Nat) : Bool := decide (l.getD q 0 < m ∨ (l.getD q 0 = m ∧ q < k))
theorem PL_sel (l : List Int) (m : Int) (k : Nat) : PL l m k = sel l 0 (ng l m k) := by
  conv => rhs; rw [← List.take_append_drop k l]
  rw [sel_append]
  unfold PL
  have hd : ∀ q c, l[q]? = some c → l.getD q 0 = c := fun q c h => by simp [List.getD_eq_getElem?_getD, h]
  rw [List.take_append_drop]
  congr 1
  · refine (sel_filter _ _ _ _ (fun q c h => ?_)).symm
    have hq : q < k := by
      have := (List.getElem?_eq_some_iff.1 h).1; simp at this; omega
    have hc : l[q]? = some c := by rw [List.getElem?_take_of_lt hq] at h; exact h
    unfold ng
    rw [Nat.zero_add, hd q c hc]
    by_cases h1 : c ≤ m
    · simp [h1]; omega
    · simp [h1]; omega
  · refine (sel_filter _ _ _ _ (fun q c h => ?_)).symm
    have hc : l[k + q]? = some c := by rw [List.getElem?_drop] at h; exact h
    have hk : k ≤ l.length := by have := (List.getElem?_eq_some_iff.1 hc).1; omega
    have hlt : (l.take k).length = k := by simp; omega
    unfold ng
    rw [hlt, show 0 + k + q = k + q by omega, hd _ c hc]
    by_cases h1 : c < m
    · simp [h1]
    · simp [h1]
theorem ng_iff (l : List Int) (m : Int) (k q : Nat) (hq : q < l.length) : ng l m k q = true ↔ ¬ Ge l m k q := by
  unfold ng Ge; simp only [decide_eq_true_eq]; omega
theorem PL_move {l : List Int} {m m' : Int} {k k' : Nat} (h : ∀ q, Ge l m k q ↔ Ge l m' k' q) : PL l m k = PL l m' k' := by
  rw [PL_sel, PL_sel]
  refine sel_congr _ _ _ _ (fun q hq => ?_)
  rw [Nat.zero_add, Bool.eq_iff_iff, ng_iff l m k q hq, ng_iff l m' k' q hq, h q]
theorem ge_next {l : List Int} {m : Int} {k p : Nat} (h : IsNext l m k p) (q : Nat) : Ge l m k q ↔ Ge l (l.getD p 0) p q := by
  obtain ⟨h1, h2⟩ := h
  constructor
  · intro hq; have := h2 q hq; exact ⟨hq.1, by omega⟩
  · rintro ⟨g1, g2⟩; refine ⟨g1, ?_⟩; obtain ⟨_, h1⟩ := h1; omega
theorem getD_at {l : List Int} {p : Nat} (hp : p < l.length) : l.getD p 0 = l[p] := by simp [List.getD_eq_getElem?_getD, List.getElem?_eq_getElem hp]
/-- The next one is put in behind those that are not greater. -/
theorem PL_next {l : List Int} {m : Int} {k p : Nat} (h : IsNext l m k p) :
    PL l m k = (l.take p).filter (fun c => decide (c ≤ l.getD p 0)) ++ (l.drop (p + 1)).filter (fun c => decide (c < l.getD p 0)) ∧
    PL l (l.getD p 0) (p + 1) = (l.take p).filter (fun c => decide (c ≤ l.getD p 0)) ++ [l.getD p 0] ++ (l.drop (p + 1)).filter (fun c => decide (c < l.getD p 0)) := by
  have hp : p < l.length := h.1.1
  have hg := getD_at hp
  constructor
  · rw [PL_move (ge_next h)]
    unfold PL
    rw [List.drop_eq_getElem_cons hp, List.filter_cons, ← hg]
    simp
  · unfold PL
    rw [List.take_succ_eq_append_getElem hp, List.filter_append, ← hg]
    simp
theorem cle_len (x : List Int) (c : Int) : (x.filter (fun y => decide (y ≤ c))).length = cle x c := by unfold cle; rw [List.countP_eq_length_filter]
theorem PL_start (l : List Int) : PL l 128 0 = basics l := by unfold PL basics; simp
theorem PL_end {l : List Int} {m : Int} {k : Nat} (h : ∀ q, ¬ Ge l m k q) : PL l m k = l := by
  rw [PL_sel, sel_filter l 0 _ (fun _ => true)]
  · simp
  · intro q c hq
    rw [Nat.zero_add]
    exact (ng_iff l m k q (List.getElem?_eq_some_iff.1 hq).1).2 (h q)
theorem PL_len_lt {l : List Int} {m : Int} {k : Nat} (h : (PL l m k).length < l.length) : ∃ q, Ge l m k q := by
  apply Classical.byContradiction
  intro hn
  rw [PL_end (fun q hq => hn ⟨q, hq⟩)] at h
  omega
theorem sel_len (l : List Int) (P : Nat → Bool) : ∀ (x : List Int) (o : Nat), (sel x o P).length ≤ x.length
  | [], _ => by simp [sel]
  | c :: r, o => by have := sel_len l P r (o + 1); unfold sel; split <;> simp <;> omega
theorem PL_len_le (l : List Int) (m : Int) (k : Nat) : (PL l m k).length ≤ l.length := by rw [PL_sel]; exact sel_len l _ _ _
theorem sel_len_lt (P : Nat → Bool) : ∀ (x : List Int) (o q : Nat), q < x.length → P (o + q) = false → (sel x o P).length < x.length
  | [], _, _, h, _ => by simp at h
  | c :: r, o, 0, _, hp => by
    have := sel_len [] P r (o + 1)
    simp only [Nat.add_zero] at hp
    unfold sel; rw [hp]; simp; omega
  | c :: r, o, q + 1, h, hp => by
    have := sel_len_lt P r (o + 1) q (by simpa using h) (by rwa [show o + 1 + q = o + (q + 1) by omega])
    unfold sel; split <;> simp <;> omega
theorem PL_len_eq {l : List Int} {m : Int} {k : Nat} (h : (PL l m k).length = l.length) : ∀ q, ¬ Ge l m k q := by
  intro q hq
  rw [PL_sel] at h
  have := sel_len_lt (ng l m k) l 0 q hq.1 (by
    rw [Nat.zero_add]
    cases hb : ng l m k q with
    | false => rfl
    | true => exact absurd hq ((ng_iff l m k q hq.1).1 hb))
  omega
end Go.Proofs.Ytoihjbiahccaaaa.Pn
