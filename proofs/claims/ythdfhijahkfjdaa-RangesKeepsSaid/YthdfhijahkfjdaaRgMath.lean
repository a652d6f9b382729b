/- Lists of spans with values: checking, merging, cutting. Plain lists, no program in sight. -/
namespace Go.Proofs.Ythdfhijahkfjdaa.Rg
structure Sn where
  f : Int
  t : Int
  v : Int
  deriving DecidableEq
/-- The spans lie in ascending order behind 'last', each between lo and hi. -/
def chk (lo hi : Int) : Int → List Sn → Bool
  | _, [] => true
  | last, s :: r => if s.f ≤ last ∨ s.t < s.f ∨ 1114111 < s.t ∨ s.f < lo ∨ hi < s.t then false else chk lo hi s.t r
def check (l : List Sn) (lo hi : Int) : Bool := chk lo hi (-1) l && decide (l.length ≤ 256)
def valid (l : List Sn) : Bool := check l 0 1114111
/-- The same as a proposition. -/
def Asc : Int → List Sn → Prop
  | _, [] => True
  | last, s :: r => last < s.f ∧ s.f ≤ s.t ∧ s.t ≤ 1114111 ∧ Asc s.t r
theorem asc_of_chk (lo hi : Int) : ∀ (l : List Sn) (last : Int), chk lo hi last l = true → Asc last l := by
  intro l
  induction l with
  | nil => intro _ _; trivial
  | cons s r ih =>
    intro last h
    unfold chk at h
    split at h
    · cases h
    · exact ⟨by omega, by omega, by omega, ih _ h⟩
theorem chk_of_asc (l : List Sn) : ∀ last, -1 ≤ last → Asc last l → chk 0 1114111 last l = true := by
  induction l with
  | nil => intro _ _ _; rfl
  | cons s r ih =>
    intro last hl h
    obtain ⟨h1, h2, h3, h4⟩ := h
    unfold chk
    rw [if_neg (by omega)]
    exact ih _ (by omega) h4
theorem Asc.mono {l : List Sn} {a b : Int} (h : Asc a l) (hab : b ≤ a) : Asc b l := by
  cases l with
  | nil => trivial
  | cons s r => exact ⟨by have := h.1; omega, h.2⟩
theorem Asc.all {l : List Sn} : ∀ {last : Int}, Asc last l → ∀ s ∈ l, last < s.f ∧ s.f ≤ s.t ∧ s.t ≤ 1114111 := by
  induction l with
  | nil => intro _ _ s hs; cases hs
  | cons a r ih =>
    intro last h s hs
    obtain ⟨h1, h2, h3, h4⟩ := h
    rcases List.mem_cons.1 hs with rfl | hs
    · exact ⟨h1, h2, h3⟩
    · have := ih h4 s hs
      exact ⟨by omega, this.2⟩
/-- A list without the places from a to b. -/
def cut (a b : Int) (s : Sn) : List Sn := (if s.f < a then [⟨s.f, min s.t (a - 1), s.v⟩] else []) ++ (if b < s.t then [⟨max s.f (b + 1), s.t, s.v⟩] else [])
def without (l : List Sn) (a b : Int) : List Sn := l.flatMap (cut a b)
def before (l : List Sn) (c : Int) : List Sn := l.flatMap (fun s => if s.f < c then [⟨s.f, min s.t (c - 1), s.v⟩] else [])
def after (l : List Sn) (c : Int) : List Sn := l.flatMap (fun s => if c < s.t then [⟨max s.f (c + 1), s.t, s.v⟩] else [])
theorem before_nil {l : List Sn} {c : Int} (h : ∀ s ∈ l, c ≤ s.f) : before l c = [] := by
  unfold before
  rw [List.flatMap_eq_nil_iff]
  intro s hs
  rw [if_neg (by have := h s hs; omega)]
theorem without_eq (a b : Int) (hab : a ≤ b + 1) : ∀ (l : List Sn) (last : Int), Asc last l → without l a b = before l a ++ after l b := by
  intro l
  induction l with
  | nil => intro _ _; rfl
  | cons s r ih =>
    intro last h
    obtain ⟨_, h2, _, h4⟩ := h
    have hr := ih _ h4
    have e1 : without (s :: r) a b = cut a b s ++ without r a b := by simp [without]
    have e2 : before (s :: r) a = (if s.f < a then [⟨s.f, min s.t (a - 1), s.v⟩] else []) ++ before r a := by simp [before]
    have e3 : after (s :: r) b = (if b < s.t then [⟨max s.f (b + 1), s.t, s.v⟩] else []) ++ after r b := by simp [after]
    rw [e1, e2, e3, hr]
    unfold cut
    by_cases hb : b < s.t
    · have hn : before r a = [] := before_nil (fun u hu => by have := (h4.all u hu).1; omega)
      rw [hn]; simp
    · rw [if_neg hb]; simp
/-- The place of the first span behind b. -/
def place (l : List Sn) (b : Int) : Nat := (l.takeWhile (fun s => decide (s.f ≤ b))).length
def insert (l : List Sn) (s : Sn) : List Sn := l.take (place l s.t) ++ [s] ++ l.drop (place l s.t)
theorem before_lt {l : List Sn} {c : Int} : ∀ s ∈ before l c, s.f < c := by
  intro s hs
  unfold before at hs
  obtain ⟨u, _, hu⟩ := List.mem_flatMap.1 hs
  split at hu
  · simp at hu; subst hu; assumption
  · cases hu
theorem after_gt {l : List Sn} {c : Int} : ∀ s ∈ after l c, c < s.f := by
  intro s hs
  unfold after at hs
  obtain ⟨u, _, hu⟩ := List.mem_flatMap.1 hs
  split at hu
  · simp at hu; subst hu; simp; omega
  · cases hu
theorem place_eq (p q : List Sn) (b : Int) (hp : ∀ s ∈ p, s.f ≤ b) (hq : ∀ s ∈ q, b < s.f) : place (p ++ q) b = p.length := by
  unfold place
  induction p with
  | nil =>
    cases q with
    | nil => rfl
    | cons s r =>
      have := hq s (by simp)
      simp [List.takeWhile_cons]; omega
  | cons s r ih =>
    have h1 := hp s (by simp)
    have h2 := ih (fun u hu => hp u (by simp [hu]))
    simp only [List.cons_append, List.takeWhile_cons, h1, decide_true, if_true, List.length_cons]
    omega
/-- Set's list: what lies before, the span, what lies behind. -/
theorem insert_without (l : List Sn) (last a b v : Int) (h : Asc last l) (hab : a ≤ b) : insert (without l a b) ⟨a, b, v⟩ = before l a ++ [⟨a, b, v⟩] ++ after l b := by
  rw [without_eq a b (by omega) l last h]
  unfold insert
  have hpl : place (before l a ++ after l b) b = (before l a).length := place_eq _ _ _ (fun s hs => by have := before_lt s hs; omega) (fun s hs => after_gt s hs)
  simp only [hpl]
  simp
end Go.Proofs.Ythdfhijahkfjdaa.Rg
