/- What keep.Spans gives, and what the laws on it say. Plain lists, no program in sight. -/
import Derived.Test.YthdfhijahkfjdaaRgTwo
import Derived.Test.YthdfhijahkfjdaaKpMath
set_option linter.unusedVariables false
namespace Go.Proofs.Ythdfhijahkfjdaa.Rg
/-- Where keep.Spans stands before its span k: the source's place, the next free code point, the list. -/
def mkS (xs : List Int) : Nat → Nat × Int × List Sn
  | 0 => (Kp.ad xs (Kp.ad xs 0), Kp.nx xs 0 5, [])
  | k + 1 =>
    let i := (mkS xs k).1
    let f := (mkS xs k).2.1 + Kp.nx xs i 4
    let t := f + Kp.nx xs (Kp.ad xs (Kp.ad xs i)) 5
    (Kp.ad xs (Kp.ad xs (Kp.ad xs i)), t + 1, (mkS xs k).2.2 ++ [⟨f, t, Kp.nx xs (Kp.ad xs i) 3⟩])
def mkN (xs : List Int) : Nat := (Kp.nx xs (Kp.ad xs 0) 7).toNat
/-- What keep.Spans returns. -/
def mk (xs : List Int) : List Sn := (mkS xs (mkN xs)).2.2
theorem mkS_ok (xs : List Int) : ∀ k : Nat, k ≤ 1000 → Asc (-1) (mkS xs k).2.2 ∧ endT (-1) (mkS xs k).2.2 < (mkS xs k).2.1 ∧ 0 ≤ (mkS xs k).2.1 ∧ (mkS xs k).2.1 ≤ 4 + 8 * (k : Int) ∧ (mkS xs k).2.2.length = k
  | 0, _ => by
    have h0 := Kp.nx_lo xs 0 5 (by omega); have h1 := Kp.nx_hi xs 0 5 (by omega)
    simp only [mkS, Asc, endT]; exact ⟨trivial, by omega, by omega, by omega, rfl⟩
  | k + 1, hk => by
    obtain ⟨g1, g2, g3, g4, g5⟩ := mkS_ok xs k (by omega)
    simp only [mkS]
    generalize mkS xs k = s at *
    obtain ⟨i, at_, l⟩ := s
    simp only at *
    have a0 := Kp.nx_lo xs i 4 (by omega); have a1 := Kp.nx_hi xs i 4 (by omega)
    have b0 := Kp.nx_lo xs (Kp.ad xs (Kp.ad xs i)) 5 (by omega); have b1 := Kp.nx_hi xs (Kp.ad xs (Kp.ad xs i)) 5 (by omega)
    refine ⟨(asc_append _ _ _).2 ⟨g1, ?_, ?_, ?_, trivial⟩, ?_, by omega, by omega, by simp [g5]⟩
    · show _ < at_ + _; omega
    · show at_ + _ ≤ at_ + _ + _; omega
    · show at_ + _ + _ ≤ 1114111; omega
    · rw [endT_append]; show at_ + _ + _ < _; omega
theorem mkN_le (xs : List Int) : mkN xs ≤ 6 := by
  have h0 := Kp.nx_lo xs (Kp.ad xs 0) 7 (by omega); have h1 := Kp.nx_hi xs (Kp.ad xs 0) 7 (by omega)
  unfold mkN; omega
theorem mkN_eq (xs : List Int) : Kp.nx xs (Kp.ad xs 0) 7 = (mkN xs : Int) := by
  have h0 := Kp.nx_lo xs (Kp.ad xs 0) 7 (by omega)
  unfold mkN; omega
theorem mk_asc (xs : List Int) : Asc (-1) (mk xs) := (mkS_ok xs _ (by have := mkN_le xs; omega)).1
theorem mk_len (xs : List Int) : (mk xs).length ≤ 6 := by have := mkN_le xs; have := (mkS_ok xs (mkN xs) (by omega)).2.2.2.2; unfold mk; omega
theorem mk_valid (xs : List Int) : valid (mk xs) = true := valid_of_asc (mk_asc xs) (by have := mk_len xs; omega)

theorem mrg_valid {l : List Sn} (h : Asc (-1) l) (hl : l.length ≤ 256) : valid (mrg l) = true := valid_of_asc (mrg_asc h) (by have := mrg_len l; omega)
theorem findP_mrg {l : List Sn} (h : Asc (-1) l) (hl : l.length ≤ 256) (c : Int) : findP (mrg l) c = ((val l c).getD 0, (val l c).isSome) := by
  unfold findP; rw [if_pos (mrg_valid h hl), mrg_val h]
theorem findP_asc {l : List Sn} (h : Asc (-1) l) (hl : l.length ≤ 256) (c : Int) : findP l c = ((val l c).getD 0, (val l c).isSome) := by
  unfold findP; rw [if_pos (valid_of_asc h hl)]
theorem full_of {l : List Sn} (hl : l.length ≤ 256) : full l = (mrg l, 0) := by
  unfold full; rw [if_neg (by have := mrg_len l; omega)]

/-! ### RangesSet -/
theorem clear_len (a : List Sn) (x y : Int) (h : Asc (-1) a) (hl : a.length ≤ 250) (hxy : x ≤ y) : (before a x ++ after a y).length ≤ 256 := by
  have := without_len a (-1) x y h hxy
  rw [without_eq x y (by omega) a (-1) h] at this; omega
theorem set_is (a : List Sn) (x y v : Int) (h : Asc (-1) a) (hl : a.length ≤ 250) (h0 : 0 ≤ x) (hxy : x ≤ y) (hy : y ≤ 1114111) : setP a x y v = (mrg (rep a ⟨x, y, v⟩), 0) := by
  unfold setP
  rw [if_pos (err_zero.2 ⟨valid_of_asc h (by omega), h0, hxy, hy⟩)]
  exact full_of (by have := rep_len (s := ⟨x, y, v⟩) h hxy; omega)
theorem clear_is (a : List Sn) (x y : Int) (h : Asc (-1) a) (hl : a.length ≤ 250) (h0 : 0 ≤ x) (hxy : x ≤ y) (hy : y ≤ 1114111) : clearP a x y = (mrg (before a x ++ after a y), 0) := by
  unfold clearP
  rw [if_pos (err_zero.2 ⟨valid_of_asc h (by omega), h0, hxy, hy⟩)]
  exact full_of (clear_len a x y h hl hxy)
theorem set_find (a : List Sn) (x y v : Int) (h : Asc (-1) a) (hl : a.length ≤ 250) (h0 : 0 ≤ x) (hxy : x ≤ y) (hy : y ≤ 1114111) (c : Int) : findP (setP a x y v).1 c = if x ≤ c ∧ c ≤ y then (v, true) else findP a c := by
  rw [set_is a x y v h hl h0 hxy hy, findP_asc h (by omega)]
  show findP (mrg _) c = _
  rw [findP_mrg (rep_asc h (by show (-1 : Int) < x; omega) hxy hy) (by have := rep_len (s := ⟨x, y, v⟩) h hxy; omega), rep_val _ _ _ hxy]
  by_cases hc : x ≤ c ∧ c ≤ y
  · rw [if_pos hc, if_pos hc]; rfl
  · rw [if_neg hc, if_neg hc]
theorem clear_find (a : List Sn) (x y : Int) (h : Asc (-1) a) (hl : a.length ≤ 250) (h0 : 0 ≤ x) (hxy : x ≤ y) (hy : y ≤ 1114111) (c : Int) : findP (clearP a x y).1 c = if x ≤ c ∧ c ≤ y then (0, false) else findP a c := by
  rw [clear_is a x y h hl h0 hxy hy, findP_asc h (by omega)]
  show findP (mrg _) c = _
  rw [findP_mrg (del_asc h (by omega) hxy) (clear_len a x y h hl hxy), del_val _ _ _ _ hxy]
  by_cases hc : x ≤ c ∧ c ≤ y
  · rw [if_pos hc, if_pos hc]; rfl
  · rw [if_neg hc, if_neg hc]

/-! ### RangesOverlay -/
theorem over_is (a b : List Sn) (h : Asc (-1) a) (hl : a.length ≤ 6) (k : Asc (-1) b) (kl : b.length ≤ 6) : overP a b = (mrg (over a b), 0) := by
  have := over_asc b a (-1) h k (by omega)
  unfold overP
  rw [valid_of_asc h (by omega), valid_of_asc k (by omega)]
  exact full_of (by have := this.2; omega)
theorem over_find (a b : List Sn) (h : Asc (-1) a) (hl : a.length ≤ 6) (k : Asc (-1) b) (kl : b.length ≤ 6) (c : Int) : findP (overP a b).1 c = if (findP b c).2 = true then findP b c else findP a c := by
  have := over_asc b a (-1) h k (by omega)
  rw [over_is a b h hl k kl, findP_asc h (by omega), findP_asc k (by omega)]
  show findP (mrg _) c = _
  rw [findP_mrg this.1 (by have := this.2; omega), over_val b a (-1) k]
  cases val b c <;> simp

/-! ### RangesNormal -/
theorem norm_is (a : List Sn) (h : Asc (-1) a) (hl : a.length ≤ 6) : normP a = mrg a := by unfold normP; rw [if_pos (valid_of_asc h (by omega))]
theorem norm_valid (a : List Sn) (h : Asc (-1) a) (hl : a.length ≤ 6) : valid (normP a) = true := by rw [norm_is a h hl]; exact mrg_valid h (by omega)
theorem norm_norm (a : List Sn) (h : Asc (-1) a) (hl : a.length ≤ 6) : normP (normP a) = normP a := by
  rw [norm_is a h hl]; unfold normP; rw [if_pos (mrg_valid h (by omega)), mrg_of_nrm _ (mrg_nrm h)]
theorem norm_count (a : List Sn) (h : Asc (-1) a) (hl : a.length ≤ 6) : countP (normP a) = countP a := by
  rw [norm_is a h hl]; unfold countP; rw [if_pos (mrg_valid h (by omega)), if_pos (valid_of_asc h (by omega)), mrg_cnt h]
theorem norm_nrm (a : List Sn) (h : Asc (-1) a) (hl : a.length ≤ 6) : Nrm (normP a) := by rw [norm_is a h hl]; exact mrg_nrm h
theorem norm_find (a : List Sn) (h : Asc (-1) a) (hl : a.length ≤ 6) (c : Int) : findP (normP a) c = findP a c := by
  rw [norm_is a h hl, findP_mrg h (by omega), findP_asc h (by omega)]
theorem norm_len (a : List Sn) (h : Asc (-1) a) (hl : a.length ≤ 6) : (normP a).length ≤ 6 := by rw [norm_is a h hl]; have := mrg_len a; omega

/-! ### RangesFull -/
def row (a n : Nat) : List Sn := (List.range' a n).map (fun (i : Nat) => (⟨10 * (i : Int), 10 * (i : Int) + 5, 1⟩ : Sn))
theorem row_len (a n : Nat) : (row a n).length = n := by simp [row]
theorem row_succ (a n : Nat) : row a (n + 1) = row a n ++ [⟨10 * ((a + n : Nat) : Int), 10 * ((a + n : Nat) : Int) + 5, 1⟩] := by
  simp [row, List.range'_concat]
theorem row_cons (a n : Nat) : row a (n + 1) = ⟨10 * (a : Int), 10 * (a : Int) + 5, 1⟩ :: row (a + 1) n := by simp [row, List.range'_succ]
theorem row_append (a n m : Nat) : row a (n + m) = row a n ++ row (a + n) m := by
  simp only [row]; rw [← List.map_append, List.range'_append_1]
theorem row_asc : ∀ (n a : Nat) (x : Int), x < 10 * (a : Int) → a + n ≤ 1000 → Asc x (row a n)
  | 0, _, _, _, _ => trivial
  | n + 1, a, x, h, h1 => by
    rw [row_cons]
    refine ⟨h, ?_, ?_, row_asc n (a + 1) _ ?_ (by omega)⟩
    · show (10 * (a : Int)) ≤ 10 * (a : Int) + 5; omega
    · show (10 * (a : Int) + 5) ≤ 1114111; omega
    · show (10 * (a : Int) + 5) < 10 * ((a + 1 : Nat) : Int); omega
theorem row_before : ∀ (n a : Nat) (x : Int), 10 * (a + n : Int) ≤ x + 4 → before (row a n) x = row a n
  | 0, _, _, _ => rfl
  | n + 1, a, x, h => by
    rw [row_cons, before_cons, row_before n (a + 1) x (by push_cast at *; omega), if_pos (by show 10 * (a : Int) < x; push_cast at *; omega)]
    show [(⟨10 * (a : Int), min (10 * (a : Int) + 5) (x - 1), 1⟩ : Sn)] ++ _ = _
    rw [Int.min_eq_left (by push_cast at *; omega)]; rfl
theorem row_before_none : ∀ (n a : Nat) (x : Int), x ≤ 10 * (a : Int) → before (row a n) x = []
  | 0, _, _, _ => rfl
  | n + 1, a, x, h => by
    rw [row_cons, before_cons, row_before_none n (a + 1) x (by push_cast; omega), if_neg (by show ¬ 10 * (a : Int) < x; omega)]; rfl
theorem row_after : ∀ (n a : Nat) (x : Int), x < 10 * (a : Int) → after (row a n) x = row a n
  | 0, _, _, _ => rfl
  | n + 1, a, x, h => by
    rw [row_cons, after_cons, row_after n (a + 1) x (by push_cast; omega), if_pos (by show x < 10 * (a : Int) + 5; omega)]
    show [(⟨max (10 * (a : Int)) (x + 1), 10 * (a : Int) + 5, 1⟩ : Sn)] ++ _ = _
    rw [Int.max_eq_left (by omega)]; rfl
theorem row_after_none : ∀ (n a : Nat) (x : Int), 10 * (a + n : Int) ≤ x + 5 → after (row a n) x = []
  | 0, _, _, _ => rfl
  | n + 1, a, x, h => by
    rw [row_cons, after_cons, row_after_none n (a + 1) x (by push_cast at *; omega), if_neg (by show ¬ x < 10 * (a : Int) + 5; push_cast at *; omega)]; rfl
theorem before_append (l m : List Sn) (x : Int) : before (l ++ m) x = before l x ++ before m x := by simp [before]
theorem after_append (l m : List Sn) (x : Int) : after (l ++ m) x = after l x ++ after m x := by simp [after]
theorem row_rep (p q : Nat) (v : Int) : rep (row 0 (p + (q + 1))) ⟨10 * (p : Int) + 2, 10 * (p : Int) + 2, v⟩ =
    row 0 p ++ [⟨10 * (p : Int), 10 * (p : Int) + 1, 1⟩, ⟨10 * (p : Int) + 2, 10 * (p : Int) + 2, v⟩, ⟨10 * (p : Int) + 3, 10 * (p : Int) + 5, 1⟩] ++ row (p + 1) q := by
  unfold rep
  show before _ (10 * (p : Int) + 2) ++ [_] ++ after _ (10 * (p : Int) + 2) = _
  rw [row_append, before_append, after_append, Nat.zero_add, row_cons, before_cons, after_cons]
  rw [row_before p 0 _ (by push_cast; omega), row_before_none q (p + 1) _ (by push_cast; omega), row_after_none p 0 _ (by push_cast; omega), row_after q (p + 1) _ (by push_cast; omega)]
  rw [if_pos (by show 10 * (p : Int) < 10 * (p : Int) + 2; omega), if_pos (by show 10 * (p : Int) + 2 < 10 * (p : Int) + 5; omega)]
  have e1 : min (10 * (p : Int) + 5) (10 * (p : Int) + 2 - 1) = 10 * (p : Int) + 1 := by omega
  have e2 : max (10 * (p : Int)) (10 * (p : Int) + 2 + 1) = 10 * (p : Int) + 3 := by omega
  simp only [e1, e2]
  simp
/-- Merging a list whose neighbours differ behind one whose neighbours differ. -/
theorem foldl_nrm : ∀ (r o : List Sn), Nrm (o ++ r) → r.foldl push o = o ++ r
  | [], o, _ => by simp
  | s :: r, o, h => by
    have h' : Nrm (o ++ [s] ++ r) := by simpa using h
    have e : push o s = o ++ [s] := by
      rcases List.eq_nil_or_concat o with rfl | ⟨k, p, rfl⟩
      · rfl
      · rw [List.concat_eq_append] at h ⊢
        rw [push_snoc, if_neg]
        exact h k.length p s (by simp) (by simp)
    rw [List.foldl_cons, e, foldl_nrm r (o ++ [s]) h']; simp
theorem row_nrm (a n : Nat) : Nrm (row a n) := by
  intro i p q hp hq
  simp only [row, List.getElem?_map, Option.map_eq_some_iff] at hp hq
  obtain ⟨i1, h1, rfl⟩ := hp
  obtain ⟨i2, h2, rfl⟩ := hq
  rw [List.getElem?_eq_some_iff] at h1 h2
  obtain ⟨_, h1⟩ := h1
  obtain ⟨_, h2⟩ := h2
  simp at h1 h2
  simp only; omega
theorem mrg_append (l m : List Sn) : mrg (l ++ m) = m.foldl push (mrg l) := by simp [mrg]
theorem nrm_of_cons : ∀ {l : List Sn} {s : Sn}, Nrm l → (∀ q, l[0]? = some q → ¬ (s.v = q.v ∧ s.t = q.f - 1)) → Nrm (s :: l) := by
  intro l s h h0 i p q hp hq
  cases i with
  | zero => simp at hp hq; subst hp; exact h0 q hq
  | succ i => simp at hp hq; exact h i p q hp hq
theorem nrm_append : ∀ {l m : List Sn}, Nrm l → Nrm m → (∀ p q, l.getLast? = some p → m[0]? = some q → ¬ (p.v = q.v ∧ p.t = q.f - 1)) → Nrm (l ++ m) := by
  intro l m h k hb i p q hp hq
  by_cases h1 : i + 1 < l.length
  · rw [List.getElem?_append_left (by omega)] at hp hq; exact h i p q hp hq
  · by_cases h2 : i + 1 = l.length
    · rw [List.getElem?_append_left (by omega)] at hp
      rw [List.getElem?_append_right (by omega), h2, Nat.sub_self] at hq
      refine hb p q ?_ hq
      rw [List.getLast?_eq_getElem?, ← hp]; congr 1; omega
    · rw [List.getElem?_append_right (by omega)] at hp hq
      exact k _ p q hp (by rw [← hq]; congr 1; omega)
theorem row_zero {a n : Nat} {q : Sn} (h : (row a n)[0]? = some q) : q.f = 10 * (a : Int) := by
  cases n with
  | zero => simp [row] at h
  | succ n => rw [row_cons] at h; simp at h; subst h; rfl
theorem row_last {a n : Nat} {p : Sn} (h : (row a n).getLast? = some p) : p.t ≤ 10 * ((a : Int) + n) - 5 := by
  cases n with
  | zero => simp [row] at h
  | succ n => rw [row_succ] at h; simp at h; subst h; push_cast; omega
/-- The same value: the list is as it was. -/
theorem row_same (p q : Nat) : mrg (rep (row 0 (p + (q + 1))) ⟨10 * (p : Int) + 2, 10 * (p : Int) + 2, 1⟩) = row 0 (p + (q + 1)) := by
  rw [row_rep, mrg_append, mrg_append, mrg_of_nrm _ (row_nrm 0 p)]
  have e : push (row 0 p) ⟨10 * (p : Int), 10 * (p : Int) + 1, 1⟩ = row 0 p ++ [⟨10 * (p : Int), 10 * (p : Int) + 1, 1⟩] := by
    cases p with
    | zero => rfl
    | succ p =>
      rw [row_succ, push_snoc, if_neg]
      simp only; push_cast; omega
  simp only [List.foldl_cons, List.foldl_nil]
  rw [e, push_snoc, if_pos ⟨rfl, by simp only; omega⟩]
  show (row (p + 1) q).foldl push (push (row 0 p ++ [⟨10 * (p : Int), 10 * (p : Int) + 2, 1⟩]) _) = _
  rw [push_snoc, if_pos ⟨rfl, by simp only; omega⟩]
  show (row (p + 1) q).foldl push (row 0 p ++ [⟨10 * (p : Int), 10 * (p : Int) + 5, 1⟩]) = _
  have e1 : row 0 p ++ [⟨10 * (p : Int), 10 * (p : Int) + 5, 1⟩] = row 0 (p + 1) := by rw [row_succ]; simp
  have e2 : row 0 (p + 1) ++ row (p + 1) q = row 0 (p + (q + 1)) := by
    have := row_append 0 (p + 1) q; rw [Nat.zero_add] at this; rw [← this]; congr 1; omega
  rw [e1, foldl_nrm _ _ (by rw [e2]; exact row_nrm _ _), e2]
/-- Another value: two spans more. -/
theorem row_other (p q : Nat) (v : Int) (hv : v ≠ 1) : (mrg (rep (row 0 (p + (q + 1))) ⟨10 * (p : Int) + 2, 10 * (p : Int) + 2, v⟩)).length = p + (q + 1) + 2 := by
  rw [mrg_of_nrm, row_rep]
  · simp [row_len]; omega
  · rw [row_rep]
    refine nrm_append (nrm_append (row_nrm 0 p) ?_ ?_) (row_nrm _ _) ?_
    · refine nrm_of_cons (nrm_of_cons (nrm_one _) ?_) ?_
      · intro q hq; simp at hq; subst hq; simp only; omega
      · intro q hq; simp at hq; subst hq; simp only; omega
    · intro a b ha hb hab
      have := row_last ha
      simp at hb; subst hb; simp only at hab; push_cast at this; omega
    · intro a b ha hb hab
      have := row_zero hb
      simp at ha; subst ha; simp only at hab; push_cast at this; omega
theorem set_law (a : List Sn) (x y v : Int) (h : Asc (-1) a) (hl : a.length ≤ 250) (h0 : 0 ≤ x) (hxy : x ≤ y) (hy : y ≤ 1114111) :
    ∃ S T, setP a x y v = (S, 0) ∧ clearP a x y = (T, 0) ∧ S.length ≤ 256 ∧ T.length ≤ 256 ∧
      ∀ c, (x ≤ c ∧ c ≤ y → findP S c = (v, true) ∧ findP T c = (0, false)) ∧ (¬ (x ≤ c ∧ c ≤ y) → findP S c = findP a c ∧ findP T c = findP a c) := by
  have f1 := set_find a x y v h hl h0 hxy hy
  have f2 := clear_find a x y h hl h0 hxy hy
  rw [set_is a x y v h hl h0 hxy hy] at f1
  rw [clear_is a x y h hl h0 hxy hy] at f2
  refine ⟨_, _, set_is a x y v h hl h0 hxy hy, clear_is a x y h hl h0 hxy hy, ?_, ?_, fun c => ⟨fun hc => ⟨(f1 c).trans (if_pos hc), (f2 c).trans (if_pos hc)⟩, fun hc => ⟨(f1 c).trans (if_neg hc), (f2 c).trans (if_neg hc)⟩⟩⟩
  · have := mrg_len (rep a ⟨x, y, v⟩); have := rep_len (s := ⟨x, y, v⟩) h hxy; omega
  · have := mrg_len (before a x ++ after a y); have := clear_len a x y h hl hxy; omega
theorem over_law (a b : List Sn) (h : Asc (-1) a) (hl : a.length ≤ 6) (k : Asc (-1) b) (kl : b.length ≤ 6) :
    ∃ S, overP a b = (S, 0) ∧ S.length ≤ 256 ∧ ∀ c, findP S c = if (findP b c).2 = true then findP b c else findP a c := by
  have f1 := over_find a b h hl k kl
  rw [over_is a b h hl k kl] at f1
  refine ⟨_, over_is a b h hl k kl, ?_, f1⟩
  have := mrg_len (over a b); have := (over_asc b a (-1) h k (by omega)).2; omega
theorem norm_law (a : List Sn) (h : Asc (-1) a) (hl : a.length ≤ 6) :
    ∃ S, normP a = S ∧ S.length ≤ 6 ∧ valid S = true ∧ normP S = S ∧ countP S = countP a ∧ (∀ (i : Nat) (p q : Sn), S[i]? = some p → S[i + 1]? = some q → ¬ (p.v = q.v ∧ p.t = q.f - 1)) ∧ (∀ (i : Nat) (p : Sn), S[i]? = some p → 0 ≤ p.f ∧ p.f ≤ p.t ∧ p.t ≤ 1114111) ∧ ∀ c, findP S c = findP a c :=
  ⟨_, rfl, norm_len a h hl, norm_valid a h hl, norm_norm a h hl, norm_count a h hl, norm_nrm a h hl, fun i p hp => by
    have := (asc_of_valid (norm_valid a h hl)).1.all p (List.mem_of_getElem? hp); exact ⟨by omega, this.2⟩, norm_find a h hl⟩
theorem full_law (p q : Nat) (v : Int) (hk : p + (q + 1) ≤ 256) :
    ∃ S n, setP (row 0 (p + (q + 1))) (10 * (p : Int) + 2) (10 * (p : Int) + 2) v = (S, n) ∧ S.length ≤ 256 ∧
      (v = 1 → n = 0 ∧ S.length = p + (q + 1)) ∧ (v ≠ 1 → (256 < p + (q + 1) + 2 → n = 7) ∧ (p + (q + 1) + 2 ≤ 256 → n = 0 ∧ S.length = p + (q + 1) + 2)) := by
  have ha : Asc (-1) (row 0 (p + (q + 1))) := row_asc _ _ _ (by simp) (by omega)
  have hv : valid (row 0 (p + (q + 1))) = true := valid_of_asc ha (by rw [row_len]; omega)
  have he : err (row 0 (p + (q + 1))) (10 * (p : Int) + 2) (10 * (p : Int) + 2) = 0 := err_zero.2 ⟨hv, by omega, by omega, by omega⟩
  have hs : setP (row 0 (p + (q + 1))) (10 * (p : Int) + 2) (10 * (p : Int) + 2) v = full (rep (row 0 (p + (q + 1))) ⟨10 * (p : Int) + 2, 10 * (p : Int) + 2, v⟩) := by unfold setP; rw [if_pos he]
  rw [hs]
  by_cases h1 : v = 1
  · subst h1
    have := row_same p q
    have hl : (mrg (rep (row 0 (p + (q + 1))) ⟨10 * (p : Int) + 2, 10 * (p : Int) + 2, 1⟩)).length = p + (q + 1) := by rw [this, row_len]
    exact ⟨_, 0, by unfold full; rw [if_neg (by omega)], by omega, fun _ => ⟨rfl, hl⟩, fun h => absurd rfl h⟩
  · have hl := row_other p q v h1
    by_cases h2 : 256 < p + (q + 1) + 2
    · exact ⟨[], 7, by unfold full; rw [if_pos (by omega)], by simp, fun h => absurd h h1, fun _ => ⟨fun _ => rfl, fun h => by omega⟩⟩
    · exact ⟨_, 0, by unfold full; rw [if_neg (by omega)], by omega, fun h => absurd h h1, fun _ => ⟨fun h => by omega, fun _ => ⟨rfl, hl⟩⟩⟩
theorem full_law' (K q : Nat) (v : Int) (hq : q < K) (hk : K ≤ 256) :
    ∃ S n, setP (row 0 K) (10 * (q : Int) + 2) (10 * (q : Int) + 2) v = (S, n) ∧ S.length ≤ 256 ∧
      (v = 1 → n = 0 ∧ S.length = K) ∧ (v ≠ 1 → (256 < K + 2 → n = 7) ∧ (K + 2 ≤ 256 → n = 0 ∧ S.length = K + 2)) := by
  obtain ⟨r, rfl⟩ : ∃ r, K = q + (r + 1) := ⟨K - q - 1, by omega⟩
  exact full_law q r v hk
end Go.Proofs.Ythdfhijahkfjdaa.Rg
