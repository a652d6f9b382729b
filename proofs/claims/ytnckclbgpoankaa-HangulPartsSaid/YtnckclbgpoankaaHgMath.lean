/- Plain arithmetic of Hangul syllables: kinds, parts, composition. No program in sight. -/
namespace Go.Proofs.Ytnckclbgpoankaa.Hg
/-- Is it a syllable? -/
def syl (c : Int) : Bool := decide (44032 ≤ c) && decide (c < 55204)
def pI (c : Int) : Int := if syl c = true then (c - 44032) / 28 / 21 else 0
def pJ (c : Int) : Int := if syl c = true then (c - 44032) / 28 % 21 else 0
def pK (c : Int) : Int := if syl c = true then (c - 44032) % 28 else 0
/-- The kind. -/
def kind (c : Int) : Int :=
  if syl c = true then (if (c - 44032) % 28 = 0 then 4 else 5)
  else if 4352 ≤ c ∧ c < 4371 then 1 else if 4449 ≤ c ∧ c < 4470 then 2 else if 4519 < c ∧ c < 4547 then 3 else 0
def dec (c : Int) : List Int := if syl c = true then (if pK c = 0 then [4352 + pI c, 4449 + pJ c] else [4352 + pI c, 4449 + pJ c, 4519 + pK c]) else []
def lv (a b : Int) : Bool := (kind a == 1) && (kind b == 2)
def lvt (a b : Int) : Bool := (kind a == 4) && (kind b == 3)
def compOk (a b : Int) : Bool := lv a b || lvt a b
def comp (a b : Int) : Int := if lv a b = true then 44032 + ((a - 4352) * 21 + b - 4449) * 28 else if lvt a b = true then a + b - 4519 else 0

theorem syl_iff (c : Int) : syl c = true ↔ 44032 ≤ c ∧ c < 55204 := by simp [syl]
theorem syl_no (c : Int) : syl c = false ↔ (c < 44032 ∨ 55204 ≤ c) := by
  rw [← Bool.not_eq_true, syl_iff]; omega
theorem kind1 (c : Int) : kind c = 1 ↔ 4352 ≤ c ∧ c < 4371 := by
  unfold kind; by_cases h : syl c = true
  · have := (syl_iff c).1 h; rw [if_pos h]; split <;> omega
  · rw [if_neg h]; split
    · simp_all
    · split
      · omega
      · split <;> omega
theorem kind2 (c : Int) : kind c = 2 ↔ 4449 ≤ c ∧ c < 4470 := by
  unfold kind; by_cases h : syl c = true
  · have := (syl_iff c).1 h; rw [if_pos h]; split <;> omega
  · rw [if_neg h]; split
    · omega
    · split
      · simp_all
      · split <;> omega
theorem kind3 (c : Int) : kind c = 3 ↔ 4519 < c ∧ c < 4547 := by
  unfold kind; by_cases h : syl c = true
  · have := (syl_iff c).1 h; rw [if_pos h]; split <;> omega
  · rw [if_neg h]; split
    · omega
    · split
      · omega
      · split <;> omega
theorem kind4 (c : Int) : kind c = 4 ↔ (44032 ≤ c ∧ c < 55204) ∧ (c - 44032) % 28 = 0 := by
  unfold kind; by_cases h : syl c = true
  · have := (syl_iff c).1 h; rw [if_pos h]; split <;> omega
  · have := (syl_no c).1 (by simpa using h)
    rw [if_neg h]; split
    · omega
    · split
      · omega
      · split <;> omega
theorem kind5 (c : Int) : kind c = 5 ↔ (44032 ≤ c ∧ c < 55204) ∧ (c - 44032) % 28 ≠ 0 := by
  unfold kind; by_cases h : syl c = true
  · have := (syl_iff c).1 h; rw [if_pos h]; split <;> omega
  · have := (syl_no c).1 (by simpa using h)
    rw [if_neg h]; split
    · omega
    · split
      · omega
      · split <;> omega
theorem lv_iff (a b : Int) : lv a b = true ↔ (4352 ≤ a ∧ a < 4371) ∧ 4449 ≤ b ∧ b < 4470 := by
  simp [lv, kind1, kind2]
theorem lvt_iff (a b : Int) : lvt a b = true ↔ ((44032 ≤ a ∧ a < 55204) ∧ (a - 44032) % 28 = 0) ∧ 4519 < b ∧ b < 4547 := by
  simp [lvt, kind3, kind4]
theorem parts_of (a b k : Int) (ha : 0 ≤ a) (ha' : a < 19) (hb : 0 ≤ b) (hb' : b < 21) (hk : 0 ≤ k) (hk' : k < 28) :
    syl (44032 + (21 * a + b) * 28 + k) = true ∧ pI (44032 + (21 * a + b) * 28 + k) = a ∧ pJ (44032 + (21 * a + b) * 28 + k) = b ∧ pK (44032 + (21 * a + b) * 28 + k) = k := by
  have h : syl (44032 + (21 * a + b) * 28 + k) = true := by rw [syl_iff]; omega
  refine ⟨h, ?_, ?_, ?_⟩
  · unfold pI; rw [if_pos h]; omega
  · unfold pJ; rw [if_pos h]; omega
  · unfold pK; rw [if_pos h]; omega
theorem parts_bd (c : Int) (h : syl c = true) : (0 ≤ pI c ∧ pI c < 19) ∧ (0 ≤ pJ c ∧ pJ c < 21) ∧ (0 ≤ pK c ∧ pK c < 28) ∧ c = 44032 + (21 * pI c + pJ c) * 28 + pK c := by
  have hh := (syl_iff c).1 h
  unfold pI pJ pK; simp only [if_pos h]; omega
/-- HangulBack, with two parts. -/
theorem back2 (c : Int) (h : syl c = true) (h0 : pK c = 0) : lv (4352 + pI c) (4449 + pJ c) = true ∧ comp (4352 + pI c) (4449 + pJ c) = c := by
  have hb := parts_bd c h
  have h1 : lv (4352 + pI c) (4449 + pJ c) = true := by rw [lv_iff]; omega
  refine ⟨h1, ?_⟩
  unfold comp; rw [if_pos h1]; omega
theorem back3 (c : Int) (h : syl c = true) (h0 : pK c ≠ 0) : lv (4352 + pI c) (4449 + pJ c) = true ∧ lvt (comp (4352 + pI c) (4449 + pJ c)) (4519 + pK c) = true ∧ lv (comp (4352 + pI c) (4449 + pJ c)) (4519 + pK c) = false ∧
    comp (comp (4352 + pI c) (4449 + pJ c)) (4519 + pK c) = c := by
  have hb := parts_bd c h
  have h1 : lv (4352 + pI c) (4449 + pJ c) = true := by rw [lv_iff]; omega
  have h2 : comp (4352 + pI c) (4449 + pJ c) = c - pK c := by unfold comp; rw [if_pos h1]; omega
  rw [h2]
  have h3 : lvt (c - pK c) (4519 + pK c) = true := by rw [lvt_iff]; omega
  have h4 : lv (c - pK c) (4519 + pK c) = false := by
    rw [← Bool.not_eq_true, lv_iff]; omega
  refine ⟨h1, h3, h4, ?_⟩
  unfold comp; rw [if_neg (by rw [h4]; decide), if_pos h3]; omega
/-- HangulClosed: a leading consonant and a vowel. -/
theorem closed1 (a b : Int) (h : lv a b = true) : syl (comp a b) = true ∧ kind (comp a b) = 4 ∧ kind a = 1 ∧ syl a = false ∧ dec (comp a b) = [a, b] ∧ dec a = [] := by
  have hh := (lv_iff a b).1 h
  have hc : comp a b = 44032 + (21 * (a - 4352) + (b - 4449)) * 28 + 0 := by unfold comp; rw [if_pos h]; omega
  obtain ⟨s1, s2, s3, s4⟩ := parts_of (a - 4352) (b - 4449) 0 (by omega) (by omega) (by omega) (by omega) (by omega) (by omega)
  rw [← hc] at s1 s2 s3 s4
  have hs : syl a = false := by rw [syl_no]; omega
  refine ⟨s1, ?_, (kind1 a).2 hh.1, hs, ?_, ?_⟩
  · rw [kind4, ← syl_iff]; refine ⟨s1, ?_⟩; rw [hc]; omega
  · unfold dec; rw [if_pos s1, if_pos s4, s2, s3]; congr 1; omega; congr 1; omega
  · unfold dec; rw [if_neg (by rw [hs]; decide)]
theorem closed2 (a b : Int) (h : lvt a b = true) : lv a b = false ∧ syl (comp a b) = true ∧ kind (comp a b) = 5 ∧ kind a = 4 ∧ syl a = true ∧ dec (comp a b) = dec a ++ [b] ∧ (dec a).length = 2 := by
  have hh := (lvt_iff a b).1 h
  have hl : lv a b = false := by rw [← Bool.not_eq_true, lv_iff]; omega
  have hsa : syl a = true := (syl_iff a).2 hh.1.1
  have hb := parts_bd a hsa
  have hk0 : pK a = 0 := by unfold pK; rw [if_pos hsa]; exact hh.1.2
  have hc : comp a b = 44032 + (21 * pI a + pJ a) * 28 + (b - 4519) := by unfold comp; rw [if_neg (by rw [hl]; decide), if_pos h]; omega
  obtain ⟨s1, s2, s3, s4⟩ := parts_of (pI a) (pJ a) (b - 4519) (by omega) (by omega) (by omega) (by omega) (by omega) (by omega)
  rw [← hc] at s1 s2 s3 s4
  refine ⟨hl, s1, ?_, (kind4 a).2 hh.1, hsa, ?_, ?_⟩
  · rw [kind5, ← syl_iff]; refine ⟨s1, ?_⟩; rw [hc]; omega
  · unfold dec; rw [if_pos s1, if_pos hsa, if_pos hk0, if_neg (by rw [s4]; omega), s2, s3, s4]
    show _ = [_, _, _]
    congr 3; omega
  · unfold dec; rw [if_pos hsa, if_pos hk0]; rfl
theorem dec_len (c : Int) : (dec c).length ≤ 3 := by
  unfold dec; split
  · split <;> simp
  · simp
end Go.Proofs.Ytnckclbgpoankaa.Hg
