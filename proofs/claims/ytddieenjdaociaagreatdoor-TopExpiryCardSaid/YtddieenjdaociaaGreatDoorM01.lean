/- Plain arithmetic of Hangul syllables: kinds, parts, composition. No program in sight. The numbers that a source of choices gives: plain arithmetic. No program in sight. Labels of names: dividing a list at the full stops, and joining again. Plain lists, no program in sight. -/

namespace Go.Proofs.YtddieenjdaociaaGreatDoor.Hg
/-- Is it a syllable? -/
def syl (c : Int) : Bool := decide (44032 ≤ c) && decide (c < 55204)
def pI (c : Int) : Int := if syl c = true then (c - 44032) / 28 / 21 else 0
def pJ (c : Int) : Int := if syl c = true then (c - 44032) / 28 % 21 else 0
def pK (c : Int) : Int := if syl c = true then (c - 44032) % 28 else 0
/-- The kind. -/
def kind (c : Int) : Int :=
  if syl c = true then (if (c - 44032) % 28 = 0 then 4 else 5)
  else if 4352 ≤ c ∧ c < 4371 then 1 else if 4449 ≤ c ∧ c < 4470 then 2 else if 4519 < c ∧ c < 4547 then 3 else 0
def dec (c : Int) : List Int := if syl c = true then (if pK c = 0 then [4352 + pI c, 4449 + pJ c] else [4352 + pI c, 4449 + pJ c, 4519 + pK c]) else []
def lv (a b : Int) : Bool := (kind a == 1) && (kind b == 2)
def lvt (a b : Int) : Bool := (kind a == 4) && (kind b == 3)
def compOk (a b : Int) : Bool := lv a b || lvt a b
def comp (a b : Int) : Int := if lv a b = true then 44032 + ((a - 4352) * 21 + b - 4449) * 28 else if lvt a b = true then a + b - 4519 else 0

theorem syl_iff (c : Int) : syl c = true ↔ 44032 ≤ c ∧ c < 55204 := by simp [syl]
theorem syl_no (c : Int) : syl c = false ↔ (c < 44032 ∨ 55204 ≤ c) := by
  rw [← Bool.not_eq_true, syl_iff]; omega
theorem kind1 (c : Int) : kind c = 1 ↔ 4352 ≤ c ∧ c < 4371 := by
  unfold kind; by_cases h : syl c = true
  · have := (syl_iff c).1 h; rw [if_pos h]; split <;> omega
  · rw [if_neg h]; split
    · simp_all
    · split
      · omega
      · split <;> omega
theorem kind2 (c : Int) : kind c = 2 ↔ 4449 ≤ c ∧ c < 4470 := by
  unfold kind; by_cases h : syl c = true
  · have := (syl_iff c).1 h; rw [if_pos h]; split <;> omega
  · rw [if_neg h]; split
    · omega
    · split
      · simp_all
      · split <;> omega
theorem kind3 (c : Int) : kind c = 3 ↔ 4519 < c ∧ c < 4547 := by
  unfold kind; by_cases h : syl c = true
  · have := (syl_iff c).1 h; rw [if_pos h]; split <;> omega
  · rw [if_neg h]; split
    · omega
    · split
      · omega
      · split <;> omega
theorem kind4 (c : Int) : kind c = 4 ↔ (44032 ≤ c ∧ c < 55204) ∧ (c - 44032) % 28 = 0 := by
  unfold kind; by_cases h : syl c = true
  · have := (syl_iff c).1 h; rw [if_pos h]; split <;> omega
  · have := (syl_no c).1 (by simpa using h)
    rw [if_neg h]; split
    · omega
    · split
      · omega
      · split <;> omega
theorem kind5 (c : Int) : kind c = 5 ↔ (44032 ≤ c ∧ c < 55204) ∧ (c - 44032) % 28 ≠ 0 := by
  unfold kind; by_cases h : syl c = true
  · have := (syl_iff c).1 h; rw [if_pos h]; split <;> omega
  · have := (syl_no c).1 (by simpa using h)
    rw [if_neg h]; split
    · omega
    · split
      · omega
      · split <;> omega
theorem lv_iff (a b : Int) : lv a b = true ↔ (4352 ≤ a ∧ a < 4371) ∧ 4449 ≤ b ∧ b < 4470 := by
  simp [lv, kind1, kind2]
theorem lvt_iff (a b : Int) : lvt a b = true ↔ ((44032 ≤ a ∧ a < 55204) ∧ (a - 44032) % 28 = 0) ∧ 4519 < b ∧ b < 4547 := by
  simp [lvt, kind3, kind4]
theorem parts_of (a b k : Int) (ha : 0 ≤ a) (ha' : a < 19) (hb : 0 ≤ b) (hb' : b < 21) (hk : 0 ≤ k) (hk' : k < 28) :
    syl (44032 + (21 * a + b) * 28 + k) = true ∧ pI (44032 + (21 * a + b) * 28 + k) = a ∧ pJ (44032 + (21 * a + b) * 28 + k) = b ∧ pK (44032 + (21 * a + b) * 28 + k) = k := by
  have h : syl (44032 + (21 * a + b) * 28 + k) = true := by rw [syl_iff]; omega
  refine ⟨h, ?_, ?_, ?_⟩
  · unfold pI; rw [if_pos h]; omega
  · unfold pJ; rw [if_pos h]; omega
  · unfold pK; rw [if_pos h]; omega
theorem parts_bd (c : Int) (h : syl c = true) : (0 ≤ pI c ∧ pI c < 19) ∧ (0 ≤ pJ c ∧ pJ c < 21) ∧ (0 ≤ pK c ∧ pK c < 28) ∧ c = 44032 + (21 * pI c + pJ c) * 28 + pK c := by
  have hh := (syl_iff c).1 h
  unfold pI pJ pK; simp only [if_pos h]; omega
/-- HangulBack, with two parts. -/
theorem back2 (c : Int) (h : syl c = true) (h0 : pK c = 0) : lv (4352 + pI c) (4449 + pJ c) = true ∧ comp (4352 + pI c) (4449 + pJ c) = c := by
  have hb := parts_bd c h
  have h1 : lv (4352 + pI c) (4449 + pJ c) = true := by rw [lv_iff]; omega
  refine ⟨h1, ?_⟩
  unfold comp; rw [if_pos h1]; omega
theorem back3 (c : Int) (h : syl c = true) (h0 : pK c ≠ 0) : lv (4352 + pI c) (4449 + pJ c) = true ∧ lvt (comp (4352 + pI c) (4449 + pJ c)) (4519 + pK c) = true ∧ lv (comp (4352 + pI c) (4449 + pJ c)) (4519 + pK c) = false ∧
    comp (comp (4352 + pI c) (4449 + pJ c)) (4519 + pK c) = c := by
  have hb := parts_bd c h
  have h1 : lv (4352 + pI c) (4449 + pJ c) = true := by rw [lv_iff]; omega
  have h2 : comp (4352 + pI c) (4449 + pJ c) = c - pK c := by unfold comp; rw [if_pos h1]; omega
  rw [h2]
  have h3 : lvt (c - pK c) (4519 + pK c) = true := by rw [lvt_iff]; omega
  have h4 : lv (c - pK c) (4519 + pK c) = false := by
    rw [← Bool.not_eq_true, lv_iff]; omega
  refine ⟨h1, h3, h4, ?_⟩
  unfold comp; rw [if_neg (by rw [h4]; decide), if_pos h3]; omega
/-- HangulClosed: a leading consonant and a vowel. -/
theorem closed1 (a b : Int) (h : lv a b = true) : syl (comp a b) = true ∧ kind (comp a b) = 4 ∧ kind a = 1 ∧ syl a = false ∧ dec (comp a b) = [a, b] ∧ dec a = [] := by
  have hh := (lv_iff a b).1 h
  have hc : comp a b = 44032 + (21 * (a - 4352) + (b - 4449)) * 28 + 0 := by unfold comp; rw [if_pos h]; omega
  obtain ⟨s1, s2, s3, s4⟩ := parts_of (a - 4352) (b - 4449) 0 (by omega) (by omega) (by omega) (by omega) (by omega) (by omega)
  rw [← hc] at s1 s2 s3 s4
  have hs : syl a = false := by rw [syl_no]; omega
  refine ⟨s1, ?_, (kind1 a).2 hh.1, hs, ?_, ?_⟩
  · rw [kind4, ← syl_iff]; refine ⟨s1, ?_⟩; rw [hc]; omega
  · unfold dec; rw [if_pos s1, if_pos s4, s2, s3]; congr 1; omega; congr 1; omega
  · unfold dec; rw [if_neg (by rw [hs]; decide)]
theorem closed2 (a b : Int) (h : lvt a b = true) : lv a b = false ∧ syl (comp a b) = true ∧ kind (comp a b) = 5 ∧ kind a = 4 ∧ syl a = true ∧ dec (comp a b) = dec a ++ [b] ∧ (dec a).length = 2 := by
  have hh := (lvt_iff a b).1 h
  have hl : lv a b = false := by rw [← Bool.not_eq_true, lv_iff]; omega
  have hsa : syl a = true := (syl_iff a).2 hh.1.1
  have hb := parts_bd a hsa
  have hk0 : pK a = 0 := by unfold pK; rw [if_pos hsa]; exact hh.1.2
  have hc : comp a b = 44032 + (21 * pI a + pJ a) * 28 + (b - 4519) := by unfold comp; rw [if_neg (by rw [hl]; decide), if_pos h]; omega
  obtain ⟨s1, s2, s3, s4⟩ := parts_of (pI a) (pJ a) (b - 4519) (by omega) (by omega) (by omega) (by omega) (by omega) (by omega)
  rw [← hc] at s1 s2 s3 s4
  refine ⟨hl, s1, ?_, (kind4 a).2 hh.1, hsa, ?_, ?_⟩
  · rw [kind5, ← syl_iff]; refine ⟨s1, ?_⟩; rw [hc]; omega
  · unfold dec; rw [if_pos s1, if_pos hsa, if_pos hk0, if_neg (by rw [s4]; omega), s2, s3, s4]
    show _ = [_, _, _]
    congr 3; omega
  · unfold dec; rw [if_pos hsa, if_pos hk0]; rfl
theorem dec_len (c : Int) : (dec c).length ≤ 3 := by
  unfold dec; split
  · split <;> simp
  · simp
end Go.Proofs.YtddieenjdaociaaGreatDoor.Hg
namespace Go.Proofs.YtddieenjdaociaaGreatDoor.Kp
/-- keep.Pick: an arbitrary integer in the range from 0 to n - 1. -/
def pick (v n : Int) : Int := v % 18446744073709551616 % n
theorem pick_lo (v n : Int) (h : 1 ≤ n) : 0 ≤ pick v n := by unfold pick; exact Int.emod_nonneg _ (by omega)
theorem pick_hi (v n : Int) (h : 1 ≤ n) : pick v n < n := by unfold pick; exact Int.emod_lt_of_pos _ (by omega)
/-- A source: the next number from 0 to n - 1, and where it stands then. -/
def nx (xs : List Int) (i : Nat) (n : Int) : Int := match xs[i]? with | some v => pick v n | none => 0
def ad (xs : List Int) (i : Nat) : Nat := if i < xs.length then i + 1 else i
theorem nx_lo (xs : List Int) (i : Nat) (n : Int) (h : 1 ≤ n) : 0 ≤ nx xs i n := by
  unfold nx; split
  · exact pick_lo _ _ h
  · omega
theorem nx_hi (xs : List Int) (i : Nat) (n : Int) (h : 1 ≤ n) : nx xs i n < n := by
  unfold nx; split
  · exact pick_hi _ _ h
  · omega
theorem nx_at (xs : List Int) (i : Nat) (n : Int) (h : i < xs.length) : nx xs i n = pick (xs[i]) n := by
  unfold nx; rw [List.getElem?_eq_getElem h]
theorem nx_end (xs : List Int) (i : Nat) (n : Int) (h : ¬ i < xs.length) : nx xs i n = 0 := by
  unfold nx; rw [List.getElem?_eq_none (by omega)]
theorem ad_le (xs : List Int) (i : Nat) (h : i ≤ xs.length) : ad xs i ≤ xs.length := by unfold ad; split <;> omega
theorem ad_ge (xs : List Int) (i : Nat) : i ≤ ad xs i := by unfold ad; split <;> omega
end Go.Proofs.YtddieenjdaociaaGreatDoor.Kp
namespace Go.Proofs.YtddieenjdaociaaGreatDoor.Sp
/-- One element more: what is done, and the label under way. -/
def step (st : List (List Int) × List Int) (c : Int) : List (List Int) × List Int := if c = 46 then (st.1 ++ [st.2], []) else (st.1, st.2 ++ [c])
def st (xs : List Int) : List (List Int) × List Int := xs.foldl step ([], [])
/-- The labels of a list. -/
def labels (xs : List Int) : List (List Int) := (st xs).1 ++ [(st xs).2]
theorem st_snoc (xs : List Int) (c : Int) : st (xs ++ [c]) = step (st xs) c := by simp [st]
theorem st_dot (xs : List Int) (c : Int) (h : c = 46) : (st (xs ++ [c])).1 = (st xs).1 ++ [(st xs).2] ∧ (st (xs ++ [c])).2 = [] := by
  rw [st_snoc]; unfold step; rw [if_pos h]; exact ⟨rfl, rfl⟩
theorem st_char (xs : List Int) (c : Int) (h : c ≠ 46) : (st (xs ++ [c])).1 = (st xs).1 ∧ (st (xs ++ [c])).2 = (st xs).2 ++ [c] := by
  rw [st_snoc]; unfold step; rw [if_neg h]; exact ⟨rfl, rfl⟩
/-- The labels with a full stop between each two. -/
def join : List (List Int) → List Int
  | [] => []
  | x :: r => x ++ r.flatMap (fun y => 46 :: y)
theorem join_snoc (l : List (List Int)) (x : List Int) : join (l ++ [x]) = join l ++ (if l = [] then [] else [46]) ++ x := by
  cases l with
  | nil => simp [join]
  | cons a r => simp [join]
theorem join_fold (xs : List Int) : ∀ (d : List (List Int)) (l : List Int), join ((xs.foldl step (d, l)).1 ++ [(xs.foldl step (d, l)).2]) = join (d ++ [l]) ++ xs := by
  induction xs with
  | nil => intro d l; simp
  | cons c xs ih =>
    intro d l
    rw [List.foldl_cons]
    by_cases hc : c = 46
    · have : step (d, l) c = (d ++ [l], []) := by unfold step; rw [if_pos hc]
      rw [this, ih, join_snoc (d ++ [l])]
      simp [hc]
    · have : step (d, l) c = (d, l ++ [c]) := by unfold step; rw [if_neg hc]
      rw [this, ih, join_snoc, join_snoc]
      simp
theorem join_labels (xs : List Int) : join (labels xs) = xs := by
  have := join_fold xs [] []
  simpa [labels, st, join] using this
/-- How many full stops. -/
def dots (xs : List Int) : Nat := xs.countP (· = 46)
theorem labels_fold (xs : List Int) : ∀ (d : List (List Int)) (l : List Int), (xs.foldl step (d, l)).1.length = d.length + dots xs := by
  induction xs with
  | nil => intro d l; simp [dots]
  | cons c xs ih =>
    intro d l
    rw [List.foldl_cons]
    by_cases hc : c = 46
    · have : step (d, l) c = (d ++ [l], []) := by unfold step; rw [if_pos hc]
      rw [this, ih]; simp [dots, hc]; omega
    · have : step (d, l) c = (d, l ++ [c]) := by unfold step; rw [if_neg hc]
      rw [this, ih]; simp [dots, hc]
theorem labels_length (xs : List Int) : (labels xs).length = 1 + dots xs := by
  have := labels_fold xs [] []
  simp [labels, st, this]; omega
theorem dots_le (xs : List Int) : dots xs ≤ xs.length := List.countP_le_length
theorem dots_snoc (xs : List Int) (c : Int) : dots (xs ++ [c]) = dots xs + if c = 46 then 1 else 0 := by
  simp [dots, List.countP_cons]
theorem nodot_fold (xs : List Int) : ∀ (d : List (List Int)) (l : List Int), (∀ y ∈ d, ∀ c ∈ y, c ≠ 46) → (∀ c ∈ l, c ≠ 46) →
    ∀ y ∈ (xs.foldl step (d, l)).1 ++ [(xs.foldl step (d, l)).2], ∀ c ∈ y, c ≠ 46 := by
  induction xs with
  | nil =>
    intro d l hd hl y hy c hc
    rcases List.mem_append.1 hy with h | h
    · exact hd y h c hc
    · simp at h; subst h; exact hl c hc
  | cons a xs ih =>
    intro d l hd hl
    rw [List.foldl_cons]
    by_cases ha : a = 46
    · have : step (d, l) a = (d ++ [l], []) := by unfold step; rw [if_pos ha]
      rw [this]
      refine ih _ _ (fun y hy c hc => ?_) (fun c hc => by simp at hc)
      rcases List.mem_append.1 hy with h | h
      · exact hd y h c hc
      · simp at h; subst h; exact hl c hc
    · have : step (d, l) a = (d, l ++ [a]) := by unfold step; rw [if_neg ha]
      rw [this]
      refine ih _ _ hd (fun c hc => ?_)
      rcases List.mem_append.1 hc with h | h
      · exact hl c h
      · simp at h; subst h; exact ha
theorem nodot (xs : List Int) : ∀ y ∈ labels xs, ∀ c ∈ y, c ≠ 46 := nodot_fold xs [] [] (by simp) (by simp)
theorem st_len (xs : List Int) : (st xs).1.length ≤ xs.length := by
  have := labels_fold xs [] []; have h2 := dots_le xs
  unfold st; rw [this]; simpa using h2
theorem last_fold (xs : List Int) : ∀ (d : List (List Int)) (l : List Int), (xs.foldl step (d, l)).2.length ≤ l.length + xs.length := by
  induction xs with
  | nil => intro d l; simp
  | cons a xs ih =>
    intro d l
    rw [List.foldl_cons]
    by_cases ha : a = 46
    · have e : step (d, l) a = (d ++ [l], []) := by unfold step; rw [if_pos ha]
      rw [e]; refine Nat.le_trans (ih _ _) ?_; simp; omega
    · have e : step (d, l) a = (d, l ++ [a]) := by unfold step; rw [if_neg ha]
      rw [e]; refine Nat.le_trans (ih _ _) ?_; simp; omega
theorem st_last (xs : List Int) : (st xs).2.length ≤ xs.length := by
  have := last_fold xs [] []; simpa [st] using this
theorem join_snoc_take (l : List (List Int)) (k : Nat) (x : List Int) (h : l[k]? = some x) : join (l.take (k + 1)) = join (l.take k) ++ (if k = 0 then [] else [46]) ++ x := by
  obtain ⟨hk, rfl⟩ := List.getElem?_eq_some_iff.1 h
  rw [List.take_succ_eq_append_getElem hk, join_snoc]
  by_cases h0 : k = 0
  · subst h0; simp
  · have : ¬ l.take k = [] := by
      intro e
      have h1 := congrArg List.length e
      rw [List.length_take, List.length_nil] at h1
      omega
    rw [if_neg this, if_neg h0]
/-- The length of a join, from the labels' lengths. -/
def total (l : List (List Int)) : Nat := (l.map (fun x => x.length + 1)).sum
theorem join_len (l : List (List Int)) : (join l).length ≤ total l := by
  cases l with
  | nil => simp [join]
  | cons a r =>
    have : ∀ r : List (List Int), (r.flatMap (fun y => (46 : Int) :: y)).length = total r := by
      intro r; induction r with
      | nil => rfl
      | cons b r ih => simp [total] at ih ⊢; omega
    simp [join, this, total]
theorem total_take (l : List (List Int)) (k : Nat) : total (l.take k) ≤ total l := by
  induction l generalizing k with
  | nil => simp
  | cons a r ih =>
    cases k with
    | zero => simp [total]
    | succ k => have := ih k; simp [total] at this ⊢; omega
/-! ### The check of labels in ASCII form; a label counts by its bytes -/
def bad : List ByteArray → Nat → Option (Int × Int)
  | [], _ => none
  | s :: r, i => if s.size = 0 then some (i, 10) else if 63 < s.size then some (i, 11) else bad r (i + 1)
def bytes (l : List ByteArray) : Nat := (l.map ByteArray.size).sum
def chk (l : List ByteArray) : Int × Int :=
  if l = [] then (0, 10) else match bad l 0 with
    | some r => r
    | none => if 127 < l.length ∨ 253 < l.length - 1 + bytes l then (0, 11) else (0, 0)
/-- No label before place k is bad. -/
def fine (l : List ByteArray) (k : Nat) : Prop := ∀ (j : Nat) (s : ByteArray), j < k → l[j]? = some s → s.size ≠ 0 ∧ s.size ≤ 63
theorem bad_none (l : List ByteArray) : ∀ i, fine l l.length → bad l i = none := by
  induction l with
  | nil => intro i _; rfl
  | cons s r ih =>
    intro i h
    have h0 := h 0 s (by simp) rfl
    unfold bad
    rw [if_neg h0.1, if_neg (by omega)]
    exact ih (i + 1) (fun j t hj ht => h (j + 1) t (by simpa using hj) (by simpa using ht))
theorem bad_at (l : List ByteArray) : ∀ (i k : Nat) (s : ByteArray) (e : Int), fine l k → l[k]? = some s → ((s.size = 0 ∧ e = 10) ∨ (63 < s.size ∧ e = 11)) → bad l i = some (((i + k : Nat) : Int), e) := by
  induction l with
  | nil => intro i k s e _ h; simp at h
  | cons a r ih =>
    intro i k s e hf hk he
    cases k with
    | zero =>
      have ha : a = s := by simpa using hk
      subst ha
      unfold bad
      rcases he with ⟨h, rfl⟩ | ⟨h, rfl⟩
      · rw [if_pos h]; rfl
      · rw [if_neg (by omega), if_pos h]; rfl
    | succ k =>
      have h0 := hf 0 a (by omega) rfl
      unfold bad
      rw [if_neg h0.1, if_neg (by omega)]
      rw [ih (i + 1) k s e (fun j t hj ht => hf (j + 1) t (by omega) (by simpa using ht)) (by simpa using hk) he]
      congr 2; omega
theorem chk_bad (l : List ByteArray) (k : Nat) (s : ByteArray) (e : Int) (hf : fine l k) (hk : l[k]? = some s) (he : (s.size = 0 ∧ e = 10) ∨ (63 < s.size ∧ e = 11)) : chk l = ((k : Int), e) := by
  have hne : l ≠ [] := by rintro rfl; simp at hk
  unfold chk
  rw [if_neg hne, bad_at l 0 k s e hf hk he]
  simp
theorem chk_long (l : List ByteArray) (hne : l ≠ []) (hf : fine l l.length) (h : 127 < l.length ∨ 253 < l.length - 1 + bytes l) : chk l = (0, 11) := by
  unfold chk; rw [if_neg hne, bad_none l 0 hf]; simp [h]
theorem chk_ok (l : List ByteArray) (hne : l ≠ []) (hf : fine l l.length) (h : ¬ (127 < l.length ∨ 253 < l.length - 1 + bytes l)) : chk l = (0, 0) := by
  unfold chk; rw [if_neg hne, bad_none l 0 hf]; simp [h]
theorem bytes_take (l : List ByteArray) (k : Nat) (s : ByteArray) (h : l[k]? = some s) : bytes (l.take (k + 1)) = bytes (l.take k) + s.size := by
  obtain ⟨hk, rfl⟩ := List.getElem?_eq_some_iff.1 h
  unfold bytes; rw [List.take_succ_eq_append_getElem hk, List.map_append, List.sum_append]; simp
theorem bytes_le (l : List ByteArray) (hf : fine l l.length) (k : Nat) : bytes (l.take k) ≤ 63 * k := by
  induction k with
  | zero => simp [bytes]
  | succ k ih =>
    cases hk : l[k]? with
    | none =>
      have : l.length ≤ k := by simpa using hk
      rw [List.take_of_length_le (by omega)]
      rw [List.take_of_length_le this] at ih; omega
    | some s =>
      have := hf k s ((List.getElem?_eq_some_iff.1 hk).1) hk
      rw [bytes_take l k s hk]; omega
theorem fine_succ (l : List ByteArray) (k : Nat) (s : ByteArray) (hf : fine l k) (hk : l[k]? = some s) (h0 : s.size ≠ 0) (h1 : s.size ≤ 63) : fine l (k + 1) := by
  intro j t hj ht
  by_cases h : j = k
  · subst h; rw [hk] at ht; injection ht with ht; subst ht; exact ⟨h0, h1⟩
  · exact hf j t (by omega) ht
end Go.Proofs.YtddieenjdaociaaGreatDoor.Sp
