/- Labels of names: dividing a list at the full stops, and joining again. Plain lists, no program in sight. -/
namespace Go.Proofs.YtddlafcnfdohnaaDoor.Sp
/-- One element more: what is done, and the label under way. -/
def step (st : List (List Int) × List Int) (c : Int) : List (List Int) × List Int := if c = 46 then (st.1 ++ [st.2], []) else (st.1, st.2 ++ [c])
def st (xs : List Int) : List (List Int) × List Int := xs.foldl step ([], [])
/-- The labels of a list. -/
def labels (xs : List Int) : List (List Int) := (st xs).1 ++ [(st xs).2]
theorem st_snoc (xs : List Int) (c : Int) : st (xs ++ [c]) = step (st xs) c := by simp [st]
theorem st_dot (xs : List Int) (c : Int) (h : c = 46) : (st (xs ++ [c])).1 = (st xs).1 ++ [(st xs).2] ∧ (st (xs ++ [c])).2 = [] := by
  rw [st_snoc]; unfold step; rw [if_pos h]; exact ⟨rfl, rfl⟩
theorem st_char (xs : List Int) (c : Int) (h : c ≠ 46) : (st (xs ++ [c])).1 = (st xs).1 ∧ (st (xs ++ [c])).2 = (st xs).2 ++ [c] := by
  rw [st_snoc]; unfold step; rw [if_neg h]; exact ⟨rfl, rfl⟩
/-- The labels with a full stop between each two. -/
def join : List (List Int) → List Int
  | [] => []
  | x :: r => x ++ r.flatMap (fun y => 46 :: y)
theorem join_snoc (l : List (List Int)) (x : List Int) : join (l ++ [x]) = join l ++ (if l = [] then [] else [46]) ++ x := by
  cases l with
  | nil => simp [join]
  | cons a r => simp [join]
theorem join_fold (xs : List Int) : ∀ (d : List (List Int)) (l : List Int), join ((xs.foldl step (d, l)).1 ++ [(xs.foldl step (d, l)).2]) = join (d ++ [l]) ++ xs := by
  induction xs with
  | nil => intro d l; simp
  | cons c xs ih =>
    intro d l
    rw [List.foldl_cons]
    by_cases hc : c = 46
    · have : step (d, l) c = (d ++ [l], []) := by unfold step; rw [if_pos hc]
      rw [this, ih, join_snoc (d ++ [l])]
      simp [hc]
    · have : step (d, l) c = (d, l ++ [c]) := by unfold step; rw [if_neg hc]
      rw [this, ih, join_snoc, join_snoc]
      simp
theorem join_labels (xs : List Int) : join (labels xs) = xs := by
  have := join_fold xs [] []
  simpa [labels, st, join] using this
/-- How many full stops. -/
def dots (xs : List Int) : Nat := xs.countP (· = 46)
theorem labels_fold (xs : List Int) : ∀ (d : List (List Int)) (l : List Int), (xs.foldl step (d, l)).1.length = d.length + dots xs := by
  induction xs with
  | nil => intro d l; simp [dots]
  | cons c xs ih =>
    intro d l
    rw [List.foldl_cons]
    by_cases hc : c = 46
    · have : step (d, l) c = (d ++ [l], []) := by unfold step; rw [if_pos hc]
      rw [this, ih]; simp [dots, hc]; omega
    · have : step (d, l) c = (d, l ++ [c]) := by unfold step; rw [if_neg hc]
      rw [this, ih]; simp [dots, hc]
theorem labels_length (xs : List Int) : (labels xs).length = 1 + dots xs := by
  have := labels_fold xs [] []
  simp [labels, st, this]; omega
theorem dots_le (xs : List Int) : dots xs ≤ xs.length := List.countP_le_length
theorem dots_snoc (xs : List Int) (c : Int) : dots (xs ++ [c]) = dots xs + if c = 46 then 1 else 0 := by
  simp [dots, List.countP_cons]
theorem nodot_fold (xs : List Int) : ∀ (d : List (List Int)) (l : List Int), (∀ y ∈ d, ∀ c ∈ y, c ≠ 46) → (∀ c ∈ l, c ≠ 46) →
    ∀ y ∈ (xs.foldl step (d, l)).1 ++ [(xs.foldl step (d, l)).2], ∀ c ∈ y, c ≠ 46 := by
  induction xs with
  | nil =>
    intro d l hd hl y hy c hc
    rcases List.mem_append.1 hy with h | h
    · exact hd y h c hc
    · simp at h; subst h; exact hl c hc
  | cons a xs ih =>
    intro d l hd hl
    rw [List.foldl_cons]
    by_cases ha : a = 46
    · have : step (d, l) a = (d ++ [l], []) := by unfold step; rw [if_pos ha]
      rw [this]
      refine ih _ _ (fun y hy c hc => ?_) (fun c hc => by simp at hc)
      rcases List.mem_append.1 hy with h | h
      · exact hd y h c hc
      · simp at h; subst h; exact hl c hc
    · have : step (d, l) a = (d, l ++ [a]) := by unfold step; rw [if_neg ha]
      rw [this]
      refine ih _ _ hd (fun c hc => ?_)
      rcases List.mem_append.1 hc with h | h
      · exact hl c h
      · simp at h; subst h; exact ha
theorem nodot (xs : List Int) : ∀ y ∈ labels xs, ∀ c ∈ y, c ≠ 46 := nodot_fold xs [] [] (by simp) (by simp)
theorem st_len (xs : List Int) : (st xs).1.length ≤ xs.length := by
  have := labels_fold xs [] []; have h2 := dots_le xs
  unfold st; rw [this]; simpa using h2
theorem last_fold (xs : List Int) : ∀ (d : List (List Int)) (l : List Int), (xs.foldl step (d, l)).2.length ≤ l.length + xs.length := by
  induction xs with
  | nil => intro d l; simp
  | cons a xs ih =>
    intro d l
    rw [List.foldl_cons]
    by_cases ha : a = 46
    · have e : step (d, l) a = (d ++ [l], []) := by unfold step; rw [if_pos ha]
      rw [e]; refine Nat.le_trans (ih _ _) ?_; simp; omega
    · have e : step (d, l) a = (d, l ++ [a]) := by unfold step; rw [if_neg ha]
      rw [e]; refine Nat.le_trans (ih _ _) ?_; simp; omega
theorem st_last (xs : List Int) : (st xs).2.length ≤ xs.length := by
  have := last_fold xs [] []; simpa [st] using this
theorem join_snoc_take (l : List (List Int)) (k : Nat) (x : List Int) (h : l[k]? = some x) : join (l.take (k + 1)) = join (l.take k) ++ (if k = 0 then [] else [46]) ++ x := by
  obtain ⟨hk, rfl⟩ := List.getElem?_eq_some_iff.1 h
  rw [List.take_succ_eq_append_getElem hk, join_snoc]
  by_cases h0 : k = 0
  · subst h0; simp
  · have : ¬ l.take k = [] := by
      intro e
      have h1 := congrArg List.length e
      rw [List.length_take, List.length_nil] at h1
      omega
    rw [if_neg this, if_neg h0]
/-- The length of a join, from the labels' lengths. -/
def total (l : List (List Int)) : Nat := (l.map (fun x => x.length + 1)).sum
theorem join_len (l : List (List Int)) : (join l).length ≤ total l := by
  cases l with
  | nil => simp [join]
  | cons a r =>
    have : ∀ r : List (List Int), (r.flatMap (fun y => (46 : Int) :: y)).length = total r := by
      intro r; induction r with
      | nil => rfl
      | cons b r ih => simp [total] at ih ⊢; omega
    simp [join, this, total]
theorem total_take (l : List (List Int)) (k : Nat) : total (l.take k) ≤ total l := by
  induction l generalizing k with
  | nil => simp
  | cons a r ih =>
    cases k with
    | zero => simp [total]
    | succ k => have := ih k; simp [total] at this ⊢; omega
/-! ### The check of labels in ASCII form; a label counts by its bytes -/
def bad : List ByteArray → Nat → Option (Int × Int)
  | [], _ => none
  | s :: r, i => if s.size = 0 then some (i, 10) else if 63 < s.size then some (i, 11) else bad r (i + 1)
def bytes (l : List ByteArray) : Nat := (l.map ByteArray.size).sum
def chk (l : List ByteArray) : Int × Int :=
  if l = [] then (0, 10) else match bad l 0 with
    | some r => r
    | none => if 127 < l.length ∨ 253 < l.length - 1 + bytes l then (0, 11) else (0, 0)
/-- No label before place k is bad. -/
def fine (l : List ByteArray) (k : Nat) : Prop := ∀ (j : Nat) (s : ByteArray), j < k → l[j]? = some s → s.size ≠ 0 ∧ s.size ≤ 63
theorem bad_none (l : List ByteArray) : ∀ i, fine l l.length → bad l i = none := by
  induction l with
  | nil => intro i _; rfl
  | cons s r ih =>
    intro i h
    have h0 := h 0 s (by simp) rfl
    unfold bad
    rw [if_neg h0.1, if_neg (by omega)]
    exact ih (i + 1) (fun j t hj ht => h (j + 1) t (by simpa using hj) (by simpa using ht))
theorem bad_at (l : List ByteArray) : ∀ (i k : Nat) (s : ByteArray) (e : Int), fine l k → l[k]? = some s → ((s.size = 0 ∧ e = 10) ∨ (63 < s.size ∧ e = 11)) → bad l i = some (((i + k : Nat) : Int), e) := by
  induction l with
  | nil => intro i k s e _ h; simp at h
  | cons a r ih =>
    intro i k s e hf hk he
    cases k with
    | zero =>
      have ha : a = s := by simpa using hk
      subst ha
      unfold bad
      rcases he with ⟨h, rfl⟩ | ⟨h, rfl⟩
      · rw [if_pos h]; rfl
      · rw [if_neg (by omega), if_pos h]; rfl
    | succ k =>
      have h0 := hf 0 a (by omega) rfl
      unfold bad
      rw [if_neg h0.1, if_neg (by omega)]
      rw [ih (i + 1) k s e (fun j t hj ht => hf (j + 1) t (by omega) (by simpa using ht)) (by simpa using hk) he]
      congr 2; omega
theorem chk_bad (l : List ByteArray) (k : Nat) (s : ByteArray) (e : Int) (hf : fine l k) (hk : l[k]? = some s) (he : (s.size = 0 ∧ e = 10) ∨ (63 < s.size ∧ e = 11)) : chk l = ((k : Int), e) := by
  have hne : l ≠ [] := by rintro rfl; simp at hk
  unfold chk
  rw [if_neg hne, bad_at l 0 k s e hf hk he]
  simp
theorem chk_long (l : List ByteArray) (hne : l ≠ []) (hf : fine l l.length) (h : 127 < l.length ∨ 253 < l.length - 1 + bytes l) : chk l = (0, 11) := by
  unfold chk; rw [if_neg hne, bad_none l 0 hf]; simp [h]
theorem chk_ok (l : List ByteArray) (hne : l ≠ []) (hf : fine l l.length) (h : ¬ (127 < l.length ∨ 253 < l.length - 1 + bytes l)) : chk l = (0, 0) := by
  unfold chk; rw [if_neg hne, bad_none l 0 hf]; simp [h]
theorem bytes_take (l : List ByteArray) (k : Nat) (s : ByteArray) (h : l[k]? = some s) : bytes (l.take (k + 1)) = bytes (l.take k) + s.size := by
  obtain ⟨hk, rfl⟩ := List.getElem?_eq_some_iff.1 h
  unfold bytes; rw [List.take_succ_eq_append_getElem hk, List.map_append, List.sum_append]; simp
theorem bytes_le (l : List ByteArray) (hf : fine l l.length) (k : Nat) : bytes (l.take k) ≤ 63 * k := by
  induction k with
  | zero => simp [bytes]
  | succ k ih =>
    cases hk : l[k]? with
    | none =>
      have : l.length ≤ k := by simpa using hk
      rw [List.take_of_length_le (by omega)]
      rw [List.take_of_length_le this] at ih; omega
    | some s =>
      have := hf k s ((List.getElem?_eq_some_iff.1 hk).1) hk
      rw [bytes_take l k s hk]; omega
theorem fine_succ (l : List ByteArray) (k : Nat) (s : ByteArray) (hf : fine l k) (hk : l[k]? = some s) (h0 : s.size ≠ 0) (h1 : s.size ≤ 63) : fine l (k + 1) := by
  intro j t hj ht
  by_cases h : j = k
  · subst h; rw [hk] at ht; injection ht with ht; subst ht; exact ⟨h0, h1⟩
  · exact hf j t (by omega) ht
end Go.Proofs.YtddlafcnfdohnaaDoor.Sp
