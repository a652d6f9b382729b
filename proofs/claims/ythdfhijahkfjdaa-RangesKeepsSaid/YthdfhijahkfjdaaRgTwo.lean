/- Lists of spans: merging, the value of a place, what Set, Clear and Overlay give. Plain lists, no program in sight. -/
import Derived.Test.YthdfhijahkfjdaaRgMath
set_option linter.unusedVariables false
namespace Go.Proofs.Ythdfhijahkfjdaa.Rg
/-- The end of the last span, or what was before. -/
def endT : Int → List Sn → Int
  | a, [] => a
  | _, s :: r => endT s.t r
theorem endT_append : ∀ (x y : List Sn) (a : Int), endT a (x ++ y) = endT (endT a x) y
  | [], _, _ => rfl
  | s :: r, y, _ => by show endT s.t (r ++ y) = _; rw [endT_append r y]; rfl
theorem asc_append : ∀ (x y : List Sn) (a : Int), Asc a (x ++ y) ↔ Asc a x ∧ Asc (endT a x) y
  | [], y, a => by simp [Asc, endT]
  | s :: r, y, a => by
    show (a < s.f ∧ s.f ≤ s.t ∧ s.t ≤ 1114111 ∧ Asc s.t (r ++ y)) ↔ _
    rw [asc_append r y s.t]
    show _ ↔ (a < s.f ∧ s.f ≤ s.t ∧ s.t ≤ 1114111 ∧ Asc s.t r) ∧ Asc (endT s.t r) y
    constructor
    · rintro ⟨h1, h2, h3, h4, h5⟩; exact ⟨⟨h1, h2, h3, h4⟩, h5⟩
    · rintro ⟨⟨h1, h2, h3, h4⟩, h5⟩; exact ⟨h1, h2, h3, h4, h5⟩
theorem Asc.endT_ge : ∀ {l : List Sn} {a : Int}, Asc a l → a ≤ endT a l
  | [], _, _ => Int.le_refl _
  | s :: r, a, h => by have := Asc.endT_ge h.2.2.2; show a ≤ endT s.t r; have := h.1; have := h.2.1; omega

/-- A span behind a list, combined with the last one if possible. -/
def push (l : List Sn) (s : Sn) : List Sn :=
  match l.getLast? with
  | none => [s]
  | some p => if p.v = s.v ∧ p.t = s.f - 1 then l.dropLast ++ [⟨p.f, s.t, p.v⟩] else l ++ [s]
theorem push_nil (s : Sn) : push [] s = [s] := rfl
theorem push_snoc (l : List Sn) (p s : Sn) : push (l ++ [p]) s = if p.v = s.v ∧ p.t = s.f - 1 then l ++ [⟨p.f, s.t, p.v⟩] else l ++ [p] ++ [s] := by
  unfold push; simp
theorem push_len (l : List Sn) (s : Sn) : (push l s).length ≤ l.length + 1 := by
  rcases List.eq_nil_or_concat l with rfl | ⟨l, p, rfl⟩
  · simp [push_nil]
  · rw [List.concat_eq_append, push_snoc]; split <;> simp
theorem push_pos (l : List Sn) (s : Sn) : 1 ≤ (push l s).length := by
  rcases List.eq_nil_or_concat l with rfl | ⟨l, p, rfl⟩
  · simp [push_nil]
  · rw [List.concat_eq_append, push_snoc]; split <;> simp
def mrg (l : List Sn) : List Sn := l.foldl push []
theorem mrg_snoc (l : List Sn) (s : Sn) : mrg (l ++ [s]) = push (mrg l) s := by simp [mrg]
theorem mrg_take (l : List Sn) (k : Nat) (s : Sn) (h : l[k]? = some s) : mrg (l.take (k + 1)) = push (mrg (l.take k)) s := by
  obtain ⟨hk, rfl⟩ := List.getElem?_eq_some_iff.1 h
  rw [List.take_succ_eq_append_getElem hk, mrg_snoc]
theorem foldl_push_len : ∀ (l o : List Sn), (l.foldl push o).length ≤ o.length + l.length
  | [], o => by simp
  | s :: r, o => by have := foldl_push_len r (push o s); have := push_len o s; simp only [List.foldl_cons, List.length_cons]; omega
theorem mrg_len (l : List Sn) : (mrg l).length ≤ l.length := by have := foldl_push_len l []; simpa [mrg] using this

/-- The value of a place. -/
def cov (c : Int) (s : Sn) : Bool := decide (s.f ≤ c ∧ c ≤ s.t)
def val (l : List Sn) (c : Int) : Option Int := (l.find? (cov c)).map (·.v)
theorem val_nil (c : Int) : val [] c = none := rfl
theorem val_cons (s : Sn) (r : List Sn) (c : Int) : val (s :: r) c = if s.f ≤ c ∧ c ≤ s.t then some s.v else val r c := by
  unfold val
  by_cases h : s.f ≤ c ∧ c ≤ s.t
  · rw [if_pos h, List.find?_cons_of_pos (by simp [cov, h])]; rfl
  · rw [if_neg h, List.find?_cons_of_neg (by simpa [cov] using h)]
theorem val_append (x y : List Sn) (c : Int) : val (x ++ y) c = (val x c).or (val y c) := by
  induction x with
  | nil => simp [val_nil]
  | cons s r ih =>
    rw [List.cons_append, val_cons, val_cons, ih]
    split <;> simp
theorem val_one (s : Sn) (c : Int) : val [s] c = if s.f ≤ c ∧ c ≤ s.t then some s.v else none := by rw [val_cons, val_nil]
theorem val_asc_none : ∀ {l : List Sn} {a : Int}, Asc a l → ∀ c, c ≤ a → val l c = none
  | [], _, _, _, _ => rfl
  | s :: r, a, h, c, hc => by
    rw [val_cons, if_neg (by have := h.1; omega)]
    exact val_asc_none h.2.2.2 c (by have := h.1; have := h.2.1; omega)
theorem val_end_none : ∀ {l : List Sn} {a : Int}, Asc a l → ∀ c, endT a l < c → val l c = none
  | [], _, _, _, _ => rfl
  | s :: r, a, h, c, hc => by
    have hc' : endT s.t r < c := hc
    have := Asc.endT_ge h.2.2.2
    rw [val_cons, if_neg (by omega)]
    exact val_end_none h.2.2.2 c hc'
/-- How many places have a value. -/
def cnt : List Sn → Int
  | [] => 0
  | s :: r => (s.t - s.f + 1) + cnt r
theorem cnt_append : ∀ x y : List Sn, cnt (x ++ y) = cnt x + cnt y
  | [], y => by simp [cnt]
  | s :: r, y => by show _ + cnt (r ++ y) = (_ + cnt r) + _; rw [cnt_append r y]; omega
theorem cnt_take (l : List Sn) (k : Nat) (s : Sn) (h : l[k]? = some s) : cnt (l.take (k + 1)) = cnt (l.take k) + (s.t - s.f + 1) := by
  obtain ⟨hk, rfl⟩ := List.getElem?_eq_some_iff.1 h
  rw [List.take_succ_eq_append_getElem hk, cnt_append]; simp [cnt]
theorem cnt_bd : ∀ {l : List Sn} {a : Int}, Asc a l → -1 ≤ a → 0 ≤ cnt l ∧ cnt l ≤ endT a l - a
  | [], a, _, _ => by simp [cnt, endT]
  | s :: r, a, h, ha => by
    have h1 := h.1; have h2 := h.2.1
    have := cnt_bd h.2.2.2 (by omega)
    show 0 ≤ _ + cnt r ∧ _ + cnt r ≤ endT s.t r - a
    omega
theorem endT_hi : ∀ {l : List Sn} {a : Int}, Asc a l → a ≤ 1114111 → endT a l ≤ 1114111
  | [], _, _, h => h
  | s :: r, _, h, _ => endT_hi (l := r) h.2.2.2 h.2.2.1
/-- Neighbours that touch have different values. -/
def Nrm (l : List Sn) : Prop := ∀ (i : Nat) (p q : Sn), l[i]? = some p → l[i + 1]? = some q → ¬ (p.v = q.v ∧ p.t = q.f - 1)
theorem nrm_nil : Nrm [] := fun i p q h => by simp at h
theorem nrm_one (s : Sn) : Nrm [s] := fun i p q _ h2 => by simp at h2
theorem nrm_pre {x y : List Sn} (h : Nrm (x ++ y)) : Nrm x := by
  intro i p q h1 h2
  have hl := (List.getElem?_eq_some_iff.1 h2).1
  exact h i p q (by rw [List.getElem?_append_left (by omega)]; exact h1) (by rw [List.getElem?_append_left hl]; exact h2)
theorem nrm_snoc {l : List Sn} {p s : Sn} (h : Nrm (l ++ [p])) (hn : ¬ (p.v = s.v ∧ p.t = s.f - 1)) : Nrm (l ++ [p] ++ [s]) := by
  intro i a b h1 h2
  have hl := (List.getElem?_eq_some_iff.1 h2).1
  simp at hl
  by_cases hi : i + 1 < (l ++ [p]).length
  · exact h i a b (by rw [List.getElem?_append_left (by omega)] at h1; exact h1) (by rw [List.getElem?_append_left hi] at h2; exact h2)
  · have hi' : i = l.length := by simp at hi; omega
    subst hi'
    rw [List.getElem?_append_left (by simp), List.getElem?_append_right (by simp)] at h1
    rw [List.getElem?_append_right (by simp)] at h2
    simp at h1 h2
    subst h1; subst h2
    exact hn
theorem nrm_change {l : List Sn} {p p' : Sn} (h : Nrm (l ++ [p])) (hv : p'.v = p.v) (hf : p'.f = p.f) : Nrm (l ++ [p']) := by
  intro i a b h1 h2
  have hl := (List.getElem?_eq_some_iff.1 h2).1
  simp at hl
  by_cases hi : i + 1 < l.length
  · refine h i a b ?_ ?_
    · rw [List.getElem?_append_left (by omega)] at h1 ⊢; exact h1
    · rw [List.getElem?_append_left hi] at h2 ⊢; exact h2
  · have hi' : i + 1 = l.length := by omega
    have e2 : b = p' := by rw [List.getElem?_append_right (by omega), hi'] at h2; simp at h2; exact h2.symm
    subst e2
    rw [hv, hf]
    refine h i a p ?_ ?_
    · rw [List.getElem?_append_left (by omega)] at h1 ⊢; exact h1
    · rw [List.getElem?_append_right (by omega), hi']; simp
theorem push_step (a : Int) (o : List Sn) (s : Sn) (r : List Sn) (h : Asc a (o ++ s :: r)) :
    Asc a (push o s ++ r) ∧ (∀ c, val (push o s) c = val (o ++ [s]) c) ∧ (Nrm o → Nrm (push o s)) ∧ cnt (push o s) = cnt o + (s.t - s.f + 1) := by
  rcases List.eq_nil_or_concat o with rfl | ⟨l, p, rfl⟩
  · rw [push_nil]; exact ⟨h, fun c => rfl, fun _ => nrm_one s, by simp [cnt]⟩
  · rw [List.concat_eq_append] at h ⊢
    rw [push_snoc]
    split
    next hc =>
      obtain ⟨hv, ht⟩ := hc
      rw [List.append_assoc, asc_append] at h
      obtain ⟨h1, h2, h3, h4, h5, h6, h7, h8⟩ := h
      refine ⟨?_, ?_, ?_, ?_⟩
      · rw [List.append_assoc, asc_append]; exact ⟨h1, h2, by show p.f ≤ s.t; omega, h7, h8⟩
      · intro c
        rw [val_append, val_append, val_append, val_one, val_one, val_one]
        cases hx : val l c with
        | some x => simp
        | none =>
          simp only [Option.none_or]
          by_cases c1 : p.f ≤ c ∧ c ≤ p.t
          · rw [if_pos c1, if_pos (by show p.f ≤ c ∧ c ≤ s.t; omega)]; simp
          · rw [if_neg c1]
            by_cases c2 : s.f ≤ c ∧ c ≤ s.t
            · rw [if_pos c2, if_pos (by show p.f ≤ c ∧ c ≤ s.t; omega)]; simp [hv]
            · rw [if_neg c2, if_neg (by show ¬ (p.f ≤ c ∧ c ≤ s.t); omega)]; simp
      · intro hn; exact nrm_change hn rfl rfl
      · rw [cnt_append, cnt_append]; simp only [cnt]; omega
    next hc =>
      refine ⟨by simpa using h, fun c => rfl, fun hn => nrm_snoc hn hc, ?_⟩
      rw [cnt_append]; simp [cnt]
theorem mrg_step : ∀ (r o : List Sn) (a : Int), Asc a (o ++ r) → Asc a (r.foldl push o) ∧ (∀ c, val (r.foldl push o) c = val (o ++ r) c) ∧ (Nrm o → Nrm (r.foldl push o)) ∧ cnt (r.foldl push o) = cnt o + cnt r
  | [], o, a, h => ⟨by simpa using h, fun c => by simp, id, by simp [cnt]⟩
  | s :: r, o, a, h => by
    obtain ⟨h1, h2, h3, h4⟩ := push_step a o s r h
    obtain ⟨g1, g2, g3, g4⟩ := mrg_step r (push o s) a h1
    refine ⟨g1, fun c => ?_, fun hn => g3 (h3 hn), ?_⟩
    · rw [List.foldl_cons, g2, val_append, h2, show o ++ s :: r = (o ++ [s]) ++ r by simp, val_append (o ++ [s])]
    · rw [List.foldl_cons, g4, h4]; show _ = _ + (_ + cnt r); omega
theorem mrg_asc {a : Int} {l : List Sn} (h : Asc a l) : Asc a (mrg l) := (mrg_step l [] a h).1
theorem mrg_val {a : Int} {l : List Sn} (h : Asc a l) (c : Int) : val (mrg l) c = val l c := (mrg_step l [] a h).2.1 c
theorem mrg_nrm {a : Int} {l : List Sn} (h : Asc a l) : Nrm (mrg l) := (mrg_step l [] a h).2.2.1 nrm_nil
theorem mrg_cnt {a : Int} {l : List Sn} (h : Asc a l) : cnt (mrg l) = cnt l := by have := (mrg_step l [] a h).2.2.2; simp [cnt] at this; exact this
theorem mrg_of_nrm (l : List Sn) (h : Nrm l) : mrg l = l := by
  generalize hn : l.length = n
  induction n generalizing l with
  | zero => have := List.eq_nil_of_length_eq_zero hn; subst this; rfl
  | succ n ih =>
    rcases List.eq_nil_or_concat l with rfl | ⟨m, s, rfl⟩
    · rfl
    · rw [List.concat_eq_append] at h hn ⊢
      rw [mrg_snoc, ih m (nrm_pre h) (by simpa using hn)]
      rcases List.eq_nil_or_concat m with rfl | ⟨k, p, rfl⟩
      · rfl
      · rw [List.concat_eq_append] at h ⊢
        rw [push_snoc, if_neg]
        refine h k.length p s ?_ ?_
        · simp
        · simp

/-! ### before and after -/
theorem before_nil' (c : Int) : before [] c = [] := rfl
theorem before_cons (s : Sn) (r : List Sn) (c : Int) : before (s :: r) c = (if s.f < c then [⟨s.f, min s.t (c - 1), s.v⟩] else []) ++ before r c := by simp [before]
theorem after_cons (s : Sn) (r : List Sn) (c : Int) : after (s :: r) c = (if c < s.t then [⟨max s.f (c + 1), s.t, s.v⟩] else []) ++ after r c := by simp [after]
theorem before_snoc (l : List Sn) (k : Nat) (c : Int) (s : Sn) (h : l[k]? = some s) : before (l.take (k + 1)) c = before (l.take k) c ++ (if s.f < c then [⟨s.f, min s.t (c - 1), s.v⟩] else []) := by
  obtain ⟨hk, rfl⟩ := List.getElem?_eq_some_iff.1 h
  unfold before
  rw [List.take_succ_eq_append_getElem hk, List.flatMap_append]
  simp
theorem after_snoc (l : List Sn) (k : Nat) (c : Int) (s : Sn) (h : l[k]? = some s) : after (l.take (k + 1)) c = after (l.take k) c ++ (if c < s.t then [⟨max s.f (c + 1), s.t, s.v⟩] else []) := by
  obtain ⟨hk, rfl⟩ := List.getElem?_eq_some_iff.1 h
  unfold after
  rw [List.take_succ_eq_append_getElem hk, List.flatMap_append]
  simp
theorem before_len : ∀ (l : List Sn) (c : Int), (before l c).length ≤ l.length
  | [], _ => by simp [before]
  | s :: r, c => by have := before_len r c; rw [before_cons]; split <;> simp <;> omega
theorem after_len : ∀ (l : List Sn) (c : Int), (after l c).length ≤ l.length
  | [], _ => by simp [after]
  | s :: r, c => by have := after_len r c; rw [after_cons]; split <;> simp <;> omega
theorem before_asc : ∀ (l : List Sn) (a c : Int), Asc a l → a < c → Asc a (before l c) ∧ endT a (before l c) < c
  | [], a, c, _, hc => ⟨trivial, hc⟩
  | s :: r, a, c, h, hc => by
    obtain ⟨h1, h2, h3, h4⟩ := h
    rw [before_cons]
    by_cases hs : s.f < c
    · rw [if_pos hs]
      show (a < s.f ∧ s.f ≤ min s.t (c - 1) ∧ min s.t (c - 1) ≤ 1114111 ∧ Asc (min s.t (c - 1)) (before r c)) ∧ endT (min s.t (c - 1)) (before r c) < c
      by_cases ht : s.t < c
      · have e : min s.t (c - 1) = s.t := by omega
        rw [e]
        obtain ⟨g1, g2⟩ := before_asc r s.t c h4 ht
        exact ⟨⟨h1, h2, h3, g1⟩, g2⟩
      · have e : before r c = [] := before_nil (fun u hu => by have := (h4.all u hu).1; omega)
        rw [e]
        refine ⟨⟨h1, by omega, by omega, trivial⟩, ?_⟩
        show min s.t (c - 1) < c
        omega
    · have e : before r c = [] := before_nil (fun u hu => by have := (h4.all u hu).1; omega)
      rw [if_neg hs, e]
      exact ⟨trivial, hc⟩
theorem after_asc : ∀ (l : List Sn) (a c : Int), Asc a l → Asc (max a c) (after l c)
  | [], _, _, _ => trivial
  | s :: r, a, c, h => by
    obtain ⟨h1, h2, h3, h4⟩ := h
    have ih := after_asc r s.t c h4
    rw [after_cons]
    by_cases hs : c < s.t
    · rw [if_pos hs]
      show max a c < max s.f (c + 1) ∧ max s.f (c + 1) ≤ s.t ∧ s.t ≤ 1114111 ∧ Asc s.t (after r c)
      rw [show max s.t c = s.t by omega] at ih
      exact ⟨by omega, by omega, h3, ih⟩
    · rw [if_neg hs]
      rw [show max s.t c = max a c by omega] at ih
      exact ih
theorem val_before : ∀ (l : List Sn) (a c : Int), val (before l a) c = if c < a then val l c else none
  | [], a, c => by simp [before, val_nil]
  | s :: r, a, c => by
    rw [before_cons, val_append, val_before r a c, val_cons]
    by_cases hs : s.f < a
    · rw [if_pos hs, val_one]
      by_cases hc : c < a
      · simp only [if_pos hc]
        by_cases h : s.f ≤ c ∧ c ≤ s.t
        · rw [if_pos h, if_pos (by show s.f ≤ c ∧ c ≤ min s.t (a - 1); omega)]; simp
        · rw [if_neg h, if_neg (by show ¬ (s.f ≤ c ∧ c ≤ min s.t (a - 1)); omega)]; simp
      · rw [if_neg hc, if_neg (by show ¬ (s.f ≤ c ∧ c ≤ min s.t (a - 1)); omega), if_neg hc]; simp
    · rw [if_neg hs, val_nil]
      by_cases hc : c < a
      · rw [if_pos hc, if_pos hc, if_neg (by omega)]; simp
      · rw [if_neg hc, if_neg hc]; simp
theorem val_after : ∀ (l : List Sn) (b c : Int), val (after l b) c = if b < c then val l c else none
  | [], b, c => by simp [after, val_nil]
  | s :: r, b, c => by
    rw [after_cons, val_append, val_after r b c, val_cons]
    by_cases hs : b < s.t
    · rw [if_pos hs, val_one]
      by_cases hc : b < c
      · simp only [if_pos hc]
        by_cases h : s.f ≤ c ∧ c ≤ s.t
        · rw [if_pos h, if_pos (by show max s.f (b + 1) ≤ c ∧ c ≤ s.t; omega)]; simp
        · rw [if_neg h, if_neg (by show ¬ (max s.f (b + 1) ≤ c ∧ c ≤ s.t); omega)]; simp
      · rw [if_neg hc, if_neg (by show ¬ (max s.f (b + 1) ≤ c ∧ c ≤ s.t); omega), if_neg hc]; simp
    · rw [if_neg hs, val_nil]
      by_cases hc : b < c
      · rw [if_pos hc, if_pos hc, if_neg (by omega)]; simp
      · rw [if_neg hc, if_neg hc]; simp
/-- One span in place of what was there. -/
def rep (l : List Sn) (s : Sn) : List Sn := before l s.f ++ [s] ++ after l s.t
theorem rep_asc {l : List Sn} {s : Sn} {a : Int} (h : Asc a l) (h1 : a < s.f) (h2 : s.f ≤ s.t) (h3 : s.t ≤ 1114111) : Asc a (rep l s) := by
  obtain ⟨g1, g2⟩ := before_asc l a s.f h h1
  have g3 := after_asc l a s.t h
  rw [show max a s.t = s.t by omega] at g3
  unfold rep
  rw [List.append_assoc, asc_append]
  exact ⟨g1, g2, h2, h3, g3⟩
theorem rep_val (l : List Sn) (s : Sn) (c : Int) (h2 : s.f ≤ s.t) : val (rep l s) c = if s.f ≤ c ∧ c ≤ s.t then some s.v else val l c := by
  unfold rep
  rw [val_append, val_append, val_before, val_one, val_after]
  by_cases h : s.f ≤ c ∧ c ≤ s.t
  · rw [if_pos h, if_pos h, if_neg (by omega)]; simp
  · rw [if_neg h, if_neg h]
    by_cases hc : c < s.f
    · rw [if_pos hc, if_neg (by omega)]; simp
    · rw [if_neg hc, if_pos (by omega)]; simp
theorem del_asc {l : List Sn} {x y a : Int} (h : Asc a l) (h1 : a < x) (h2 : x ≤ y) : Asc a (before l x ++ after l y) := by
  obtain ⟨g1, g2⟩ := before_asc l a x h h1
  have g3 := after_asc l a y h
  rw [asc_append]
  exact ⟨g1, g3.mono (by omega)⟩
theorem del_val (l : List Sn) (x y c : Int) (h2 : x ≤ y) : val (before l x ++ after l y) c = if x ≤ c ∧ c ≤ y then none else val l c := by
  rw [val_append, val_before, val_after]
  by_cases h : x ≤ c ∧ c ≤ y
  · rw [if_pos h, if_neg (by omega), if_neg (by omega)]; rfl
  · rw [if_neg h]
    by_cases hc : c < x
    · rw [if_pos hc, if_neg (by omega)]; simp
    · rw [if_neg hc, if_pos (by omega)]; simp
theorem rep_eq (l : List Sn) (s : Sn) (a : Int) (h : Asc a l) (h2 : s.f ≤ s.t) : insert (without l s.f s.t) s = rep l s := insert_without l a s.f s.t s.v h h2
theorem cut_len (a b : Int) (s : Sn) : (cut a b s).length ≤ 2 := by
  unfold cut; split <;> split <;> simp
theorem without_cons (s : Sn) (r : List Sn) (x y : Int) : without (s :: r) x y = cut x y s ++ without r x y := by simp [without]
theorem without_take (l : List Sn) (a b : Int) (k : Nat) (s : Sn) (h : l[k]? = some s) : without (l.take (k + 1)) a b = without (l.take k) a b ++ cut a b s := by
  obtain ⟨hk, rfl⟩ := List.getElem?_eq_some_iff.1 h
  unfold without
  rw [List.take_succ_eq_append_getElem hk, List.flatMap_append]
  simp
theorem without_len2 (l : List Sn) (a b : Int) : (without l a b).length ≤ 2 * l.length := by
  induction l with
  | nil => simp [without]
  | cons s r ih =>
    have := cut_len a b s
    rw [without_cons, List.length_append, List.length_cons]; omega
theorem without_len : ∀ (l : List Sn) (a x y : Int), Asc a l → x ≤ y → (without l x y).length ≤ l.length + 1
  | [], _, _, _, _, _ => by simp [without]
  | s :: r, a, x, y, h, hxy => by
    obtain ⟨h1, h2, h3, h4⟩ := h
    have ih := without_len r s.t x y h4 hxy
    rw [without_cons, List.length_append, List.length_cons]
    by_cases hc : s.f < x ∧ y < s.t
    · have hr : ∀ (q : List Sn), (∀ u ∈ q, x ≤ u.f) → (without q x y).length ≤ q.length := by
        intro q
        induction q with
        | nil => intro _; simp [without]
        | cons u q iq =>
          intro hu
          have := iq (fun v hv => hu v (by simp [hv]))
          have hc1 : (cut x y u).length ≤ 1 := by
            unfold cut
            rw [if_neg (by have := hu u (by simp); omega)]
            split <;> simp
          rw [without_cons, List.length_append, List.length_cons]; omega
      have := hr r (fun u hu => by have := (h4.all u hu).1; omega)
      have := cut_len x y s
      omega
    · have hc1 : (cut x y s).length ≤ 1 := by
        unfold cut
        by_cases h5 : s.f < x
        · rw [if_pos h5, if_neg (by omega)]; simp
        · rw [if_neg h5]; split <;> simp
      omega
theorem rep_len {l : List Sn} {s : Sn} {a : Int} (h : Asc a l) (h2 : s.f ≤ s.t) : (rep l s).length ≤ l.length + 2 := by
  have := without_len l a s.f s.t h h2
  rw [without_eq s.f s.t (by omega) l a h] at this
  unfold rep
  simp at this ⊢; omega
/-- A list's spans in place of what another one has there. -/
def over (a : List Sn) (b : List Sn) : List Sn := b.foldl rep a
theorem over_take (a b : List Sn) (k : Nat) (s : Sn) (h : b[k]? = some s) : over a (b.take (k + 1)) = rep (over a (b.take k)) s := by
  obtain ⟨hk, rfl⟩ := List.getElem?_eq_some_iff.1 h
  unfold over
  rw [List.take_succ_eq_append_getElem hk, List.foldl_append]
  rfl
theorem over_asc : ∀ (b a : List Sn) (x : Int), Asc (-1) a → Asc x b → -1 ≤ x → Asc (-1) (over a b) ∧ (over a b).length ≤ a.length + 2 * b.length
  | [], a, x, ha, _, _ => ⟨ha, by simp [over]⟩
  | s :: r, a, x, ha, hb, hx => by
    obtain ⟨h1, h2, h3, h4⟩ := hb
    have g1 := rep_asc ha (by omega) h2 h3
    have g2 := rep_len ha h2
    obtain ⟨k1, k2⟩ := over_asc r (rep a s) s.t g1 h4 (by omega)
    exact ⟨k1, by show (over (rep a s) r).length ≤ _; simp only [List.length_cons]; omega⟩
theorem over_val : ∀ (b a : List Sn) (x : Int), Asc x b → ∀ c, val (over a b) c = (val b c).or (val a c)
  | [], a, x, _, c => by simp [over, val_nil]
  | s :: r, a, x, hb, c => by
    obtain ⟨h1, h2, h3, h4⟩ := hb
    show val (over (rep a s) r) c = _
    rw [over_val r (rep a s) s.t h4 c, rep_val a s c h2, val_cons]
    by_cases h : s.f ≤ c ∧ c ≤ s.t
    · rw [if_pos h, if_pos h, val_asc_none h4 c (by omega)]; rfl
    · rw [if_neg h, if_neg h]
theorem asc_take {b : List Sn} {x : Int} (h : Asc x b) (k : Nat) : Asc x (b.take k) := by
  have : Asc x (b.take k ++ b.drop k) := by rw [List.take_append_drop]; exact h
  exact ((asc_append _ _ _).1 this).1
theorem asc_at {b : List Sn} {x : Int} (h : Asc x b) {k : Nat} {s : Sn} (hs : b[k]? = some s) : x < s.f ∧ s.f ≤ s.t ∧ s.t ≤ 1114111 := h.all s (List.mem_of_getElem? hs)

theorem asc_of_valid {l : List Sn} (h : valid l = true) : Asc (-1) l ∧ l.length ≤ 256 := by
  unfold valid check at h
  rw [Bool.and_eq_true] at h
  exact ⟨asc_of_chk _ _ _ _ h.1, by simpa using h.2⟩
theorem valid_of_asc {l : List Sn} (h : Asc (-1) l) (hl : l.length ≤ 256) : valid l = true := by
  unfold valid check
  rw [chk_of_asc l (-1) (by omega) h]
  simpa using hl

/-! ### What the functions return: the list and the error's number -/
def full (l : List Sn) : List Sn × Int := if 256 < (mrg l).length then ([], 7) else (mrg l, 0)
def err (l : List Sn) (x y : Int) : Int := if valid l then (if x < 0 ∨ y < x ∨ 1114111 < y then 3 else 0) else 1
def setP (l : List Sn) (x y v : Int) : List Sn × Int := if err l x y = 0 then full (rep l ⟨x, y, v⟩) else ([], err l x y)
def clearP (l : List Sn) (x y : Int) : List Sn × Int := if err l x y = 0 then full (before l x ++ after l y) else ([], err l x y)
def overP (a b : List Sn) : List Sn × Int := if valid a && valid b then full (over a b) else ([], 1)
def normP (l : List Sn) : List Sn := if valid l then mrg l else []
def countP (l : List Sn) : Int := if valid l then cnt l else 0
def findP (l : List Sn) (c : Int) : Int × Bool := if valid l then ((val l c).getD 0, (val l c).isSome) else (0, false)
theorem err_zero {l : List Sn} {x y : Int} : err l x y = 0 ↔ valid l = true ∧ 0 ≤ x ∧ x ≤ y ∧ y ≤ 1114111 := by
  unfold err
  by_cases h : valid l = true
  · rw [if_pos h]
    by_cases h2 : x < 0 ∨ y < x ∨ 1114111 < y
    · rw [if_pos h2]; constructor
      · intro h; omega
      · rintro ⟨_, h3, h4, h5⟩; omega
    · rw [if_neg h2]; constructor
      · intro _; exact ⟨h, by omega, by omega, by omega⟩
      · intro _; rfl
  · rw [if_neg h]; constructor
    · intro h; omega
    · rintro ⟨h1, _⟩; exact absurd h1 h
end Go.Proofs.Ythdfhijahkfjdaa.Rg
