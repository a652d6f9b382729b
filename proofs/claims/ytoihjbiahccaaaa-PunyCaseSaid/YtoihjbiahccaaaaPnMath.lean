/- Punycode: digits, thresholds, the bias, numbers, and the order in which code points are placed. Plain lists, no program in sight. -/
set_option linter.unusedVariables false
namespace Go.Proofs.Ytoihjbiahccaaaa.Pn

/-! ### Digits -/
def dgt (d : Int) : UInt8 := if d < 26 then UInt8.ofNat (97 + d.toNat) else UInt8.ofNat (22 + d.toNat)
def dval (b : UInt8) : Option Int :=
  if 97 ≤ (b.toNat : Int) ∧ (b.toNat : Int) ≤ 122 then some ((b.toNat : Int) - 97) else if 65 ≤ (b.toNat : Int) ∧ (b.toNat : Int) ≤ 90 then some ((b.toNat : Int) - 65)
  else if 48 ≤ (b.toNat : Int) ∧ (b.toNat : Int) ≤ 57 then some ((b.toNat : Int) - 48 + 26) else none
theorem dgt_val (d : Int) (h0 : 0 ≤ d) (h1 : d ≤ 35) : dval (dgt d) = some d := by
  obtain ⟨n, rfl⟩ := Int.eq_ofNat_of_zero_le h0
  have h : ∀ n : Fin 36, dval (dgt (n.1 : Int)) = some (n.1 : Int) := by decide +kernel
  exact h ⟨n, by omega⟩
theorem dgt_low (d : Int) (h0 : 0 ≤ d) (h1 : d ≤ 35) : (97 ≤ (dgt d).toNat ∧ (dgt d).toNat ≤ 122) ∨ (48 ≤ (dgt d).toNat ∧ (dgt d).toNat ≤ 57) := by
  obtain ⟨n, rfl⟩ := Int.eq_ofNat_of_zero_le h0
  have h : ∀ n : Fin 36, (97 ≤ (dgt (n.1 : Int)).toNat ∧ (dgt (n.1 : Int)).toNat ≤ 122) ∨ (48 ≤ (dgt (n.1 : Int)).toNat ∧ (dgt (n.1 : Int)).toNat ≤ 57) := by decide +kernel
  exact h ⟨n, by omega⟩
theorem dval_bd {b : UInt8} {d : Int} (h : dval b = some d) : 0 ≤ d ∧ d ≤ 35 := by
  unfold dval at h
  split at h
  · injection h; omega
  · split at h
    · injection h; omega
    · split at h
      · injection h; omega
      · cases h
/-- A digit that is no capital letter is the one that is written. -/
theorem dgt_of_val {b : UInt8} {d : Int} (h : dval b = some d) (hl : ¬ (65 ≤ b.toNat ∧ b.toNat ≤ 90)) : dgt d = b := by
  have H : ∀ n : Fin 256, ∀ d : Fin 36, dval (UInt8.ofNat n.1) = some (d.1 : Int) → ¬ (65 ≤ n.1 ∧ n.1 ≤ 90) → dgt (d.1 : Int) = UInt8.ofNat n.1 := by decide +kernel
  obtain ⟨h0, h1⟩ := dval_bd h
  obtain ⟨m, rfl⟩ := Int.eq_ofNat_of_zero_le h0
  have hb : b.toNat < 256 := b.toNat_lt
  have := H ⟨b.toNat, hb⟩ ⟨m, by omega⟩
  simp only [UInt8.ofNat_toNat] at this
  exact this h hl

/-! ### Thresholds and the bias -/
def thr (j bias : Int) : Int := min (max (36 * (j + 1) - bias) 1) 26
theorem thr_lo (j b : Int) : 1 ≤ thr j b := by unfold thr; omega
theorem thr_hi (j b : Int) : thr j b ≤ 26 := by unfold thr; omega
def adLoop : Nat → Int → Int → Int
  | 0, _, k => k
  | f + 1, d, k => if 455 < d then adLoop f (d / 35) (k + 36) else k + 36 * d / (d + 38)
def adStart (d p : Int) (first : Bool) : Int := (if first then d / 700 else d / 2) + (if first then d / 700 else d / 2) / p
def adOut (d p : Int) : Bool := decide (d < 0 ∨ 1099511627776 < d ∨ p < 1 ∨ 4096 < p)
def adapt (d p : Int) (first : Bool) : Int := if adOut d p then 0 else adLoop 20 (adStart d p first) 0
theorem adStart_bd (d p : Int) (first : Bool) (h0 : 0 ≤ d) (h1 : d ≤ 1099511627776) (hp : 1 ≤ p) : 0 ≤ adStart d p first ∧ adStart d p first ≤ 1099511627776 := by
  unfold adStart
  have e : ∀ x : Int, 0 ≤ x → 0 ≤ x / p ∧ x / p ≤ x := fun x hx => ⟨Int.ediv_nonneg hx (by omega), Int.ediv_le_self p hx⟩
  cases first
  · simp only [Bool.false_eq_true, if_false]
    have := e (d / 2) (by omega); omega
  · simp only [if_true]
    have := e (d / 700) (by omega); omega
/-- With the fuel that a number needs, the loop comes to its end. -/
def adEnough : Nat → Int → Prop
  | 0, _ => False
  | f + 1, d => d ≤ 455 ∨ adEnough f (d / 35)
theorem adEnough_of : ∀ (f : Nat) (d : Int), 0 ≤ d → d ≤ 455 * 35 ^ f → adEnough (f + 1) d
  | 0, d, _, h => .inl (by simpa using h)
  | f + 1, d, h0, h => .inr (adEnough_of f (d / 35) (by omega) (by
      have : (455 : Int) * 35 ^ (f + 1) = 455 * 35 ^ f * 35 := by rw [Int.pow_succ]; omega
      omega))
theorem adLoop_more : ∀ (f : Nat) (d k : Int), adEnough f d → ∀ g, f ≤ g → adLoop g d k = adLoop f d k
  | 0, _, _, h, _, _ => h.elim
  | f + 1, d, k, h, 0, hg => by omega
  | f + 1, d, k, h, g + 1, hg => by
    unfold adLoop
    by_cases hd : 455 < d
    · rw [if_pos hd, if_pos hd]
      exact adLoop_more f (d / 35) (k + 36) (h.resolve_left (by omega)) g (by omega)
    · rw [if_neg hd, if_neg hd]
theorem adLoop_step (d k : Int) (hd : 455 < d) (h1 : d ≤ 1099511627776) : adLoop 20 d k = adLoop 20 (d / 35) (k + 36) := by
  have h : adEnough 19 (d / 35) := adEnough_of 18 _ (by omega) (by
    have : (455 : Int) * 35 ^ 18 = 455 * 35 ^ 18 := rfl
    have h2 : (1099511627776 : Int) ≤ 455 * 35 ^ 18 := by decide
    omega)
  rw [adLoop_more 19 (d / 35) (k + 36) h 20 (by omega)]
  show (if 455 < d then adLoop 19 (d / 35) (k + 36) else _) = _
  rw [if_pos hd]
theorem adLoop_end (d k : Int) (hd : ¬ 455 < d) : adLoop 20 d k = k + 36 * d / (d + 38) := by
  show (if 455 < d then _ else _) = _
  rw [if_neg hd]
theorem adLoop_bd : ∀ (f : Nat) (d k : Int), 0 ≤ d → 0 ≤ k → 0 ≤ adLoop f d k ∧ adLoop f d k ≤ k + 36 * f
  | 0, d, k, _, hk => by simp [adLoop, hk]
  | f + 1, d, k, hd, hk => by
    unfold adLoop
    by_cases h : 455 < d
    · rw [if_pos h]
      have := adLoop_bd f (d / 35) (k + 36) (by omega) (by omega)
      omega
    · rw [if_neg h]
      have h1 : 0 ≤ 36 * d / (d + 38) := Int.ediv_nonneg (by omega) (by omega)
      have h2 : 36 * d / (d + 38) < 36 := Int.ediv_lt_of_lt_mul (by omega) (by omega)
      omega
theorem adapt_bd (d p : Int) (first : Bool) : 0 ≤ adapt d p first ∧ adapt d p first ≤ 720 := by
  unfold adapt
  by_cases h : adOut d p = true
  · rw [if_pos h]; omega
  · rw [if_neg h]
    simp [adOut] at h
    have := adStart_bd d p first (by omega) (by omega) (by omega)
    have := adLoop_bd 20 (adStart d p first) 0 (by omega) (by omega)
    omega

/-! ### Numbers -/
/-- The digits of a number from place j on. -/
def digs : Nat → Int → Int → Int → List Int
  | 0, _, _, _ => []
  | f + 1, v, j, b => if v < thr j b then [v] else (thr j b + (v - thr j b) % (36 - thr j b)) :: digs f ((v - thr j b) / (36 - thr j b)) (j + 1) b
def dig (v b : Int) : List Int := digs (v.toNat + 1) v 0 b
theorem step_lt (v t : Int) (h0 : 0 ≤ v) (h1 : 1 ≤ t) (h2 : t ≤ 26) (h : ¬ v < t) : 0 ≤ (v - t) / (36 - t) ∧ (v - t) / (36 - t) < v := by
  have a : 0 ≤ (v - t) / (36 - t) := Int.ediv_nonneg (by omega) (by omega)
  have b : (v - t) / (36 - t) ≤ v - t := Int.ediv_le_self _ (by omega)
  omega
theorem digs_more : ∀ (f : Nat) (v j b : Int), 0 ≤ v → v.toNat < f → ∀ g, v.toNat < g → digs g v j b = digs f v j b
  | 0, _, _, _, _, h, _, _ => by omega
  | f + 1, _, _, _, _, _, 0, h => by omega
  | f + 1, v, j, b, h0, h, g + 1, hg => by
    unfold digs
    by_cases hv : v < thr j b
    · rw [if_pos hv, if_pos hv]
    · rw [if_neg hv, if_neg hv]
      obtain ⟨s1, s2⟩ := step_lt v (thr j b) h0 (thr_lo j b) (thr_hi j b) hv
      rw [digs_more f ((v - thr j b) / (36 - thr j b)) (j + 1) b s1 (by omega) g (by omega)]
/-- The digits from place j on, with enough fuel. -/
def digJ (v j b : Int) : List Int := digs (v.toNat + 1) v j b
theorem digJ_last (v j b : Int) (h : v < thr j b) : digJ v j b = [v] := by
  unfold digJ digs; rw [if_pos h]
theorem digJ_step (v j b : Int) (h0 : 0 ≤ v) (h : ¬ v < thr j b) : digJ v j b = (thr j b + (v - thr j b) % (36 - thr j b)) :: digJ ((v - thr j b) / (36 - thr j b)) (j + 1) b := by
  obtain ⟨s1, s2⟩ := step_lt v (thr j b) h0 (thr_lo j b) (thr_hi j b) h
  show digs (v.toNat + 1) v j b = _
  unfold digs
  rw [if_neg h]
  unfold digJ
  rw [digs_more _ _ _ _ s1 (Nat.lt_succ_self _) v.toNat (by omega)]
theorem digs_bd : ∀ (f : Nat) (v j b : Int), 0 ≤ v → ∀ d ∈ digs f v j b, 0 ≤ d ∧ d ≤ 35
  | 0, _, _, _, _, d, h => by cases h
  | f + 1, v, j, b, h0, d, h => by
    have t1 := thr_lo j b; have t2 := thr_hi j b
    unfold digs at h
    by_cases hv : v < thr j b
    · rw [if_pos hv] at h
      have : d = v := by simpa using h
      omega
    · rw [if_neg hv] at h
      rcases List.mem_cons.1 h with rfl | h
      · have := Int.emod_nonneg (v - thr j b) (show 36 - thr j b ≠ 0 by omega)
        have := Int.emod_lt_of_pos (v - thr j b) (show 0 < 36 - thr j b by omega)
        omega
      · exact digs_bd f _ _ _ (step_lt v (thr j b) h0 t1 t2 hv).1 d h
theorem digs_ne (f : Nat) (v j b : Int) : digs (f + 1) v j b ≠ [] := by
  unfold digs; split <;> simp
theorem dig_eq (v b : Int) : dig v b = digJ v 0 b := rfl
/-- A number has at most seven digits, if it is a place's difference: here only that there are few. -/
theorem digs_len : ∀ (f : Nat) (v j b : Int), 0 ≤ v → v < 10 ^ f → (digs (v.toNat + 1) v j b).length ≤ f + 1
  | 0, v, j, b, h0, h => by
    have : v = 0 := by simp at h; omega
    subst this
    have := digJ_last 0 j b (by have := thr_lo j b; omega)
    unfold digJ at this
    rw [this]; simp
  | f + 1, v, j, b, h0, h => by
    have t1 := thr_lo j b; have t2 := thr_hi j b
    by_cases hv : v < thr j b
    · have := digJ_last v j b hv
      unfold digJ at this
      rw [this]; simp
    · have := digJ_step v j b h0 hv
      obtain ⟨s1, _⟩ := step_lt v (thr j b) h0 t1 t2 hv
      unfold digJ at this
      rw [this, List.length_cons]
      have hd : (v - thr j b) / (36 - thr j b) < 10 ^ f := by
        apply Int.ediv_lt_of_lt_mul (by omega)
        have e : (10 : Int) ^ (f + 1) = 10 ^ f * 10 := Int.pow_succ ..
        have hp : (0 : Int) < 10 ^ f := Int.pow_pos (by omega)
        have : (10 : Int) ^ f * 10 ≤ 10 ^ f * (36 - thr j b) := Int.mul_le_mul_of_nonneg_left (by omega) (by omega)
        omega
      have := digs_len f _ (j + 1) b s1 hd
      omega

/-! ### Reading a number -/
def cap (x : Int) : Int := min x 2147483648
def rd : List UInt8 → Int → Int → Int → Int → Option (Int × List UInt8)
  | [], _, _, _, _ => none
  | c :: r, j, v, w, b => match dval c with
    | none => none
    | some d => if d < thr j b then some (cap (v + d * w), r) else rd r (j + 1) (cap (v + d * w)) (cap (w * (36 - thr j b))) b
theorem rd_nil (j v w b : Int) : rd [] j v w b = none := rfl
theorem rd_bad {c : UInt8} (h : dval c = none) (r : List UInt8) (j v w b : Int) : rd (c :: r) j v w b = none := by unfold rd; rw [h]
theorem rd_last {c : UInt8} {d : Int} (h : dval c = some d) (r : List UInt8) (j v w b : Int) (hd : d < thr j b) : rd (c :: r) j v w b = some (cap (v + d * w), r) := by unfold rd; rw [h]; simp [hd]
theorem rd_more {c : UInt8} {d : Int} (h : dval c = some d) (r : List UInt8) (j v w b : Int) (hd : ¬ d < thr j b) : rd (c :: r) j v w b = rd r (j + 1) (cap (v + d * w)) (cap (w * (36 - thr j b))) b := by conv => lhs; unfold rd; rw [h]; simp [hd]
theorem rd_bd : ∀ (s : List UInt8) (j v w b : Int) (x : Int) (r : List UInt8), 0 ≤ v → 0 ≤ w → rd s j v w b = some (x, r) → 0 ≤ x ∧ x ≤ 2147483648 ∧ r.length < s.length ∧ r <:+ s
  | [], _, _, _, _, _, _, _, _, h => by cases h
  | c :: r, j, v, w, b, x, y, hv, hw, h => by
    cases hd : dval c with
    | none => rw [rd_bad hd] at h; cases h
    | some d =>
      have hb := dval_bd hd
      have hm : 0 ≤ d * w := Int.mul_nonneg hb.1 hw
      by_cases ht : d < thr j b
      · rw [rd_last hd _ _ _ _ _ ht] at h
        injection h with h; injection h with h1 h2
        subst h1; subst h2
        refine ⟨by unfold cap; omega, by unfold cap; omega, by simp, List.suffix_cons _ _⟩
      · rw [rd_more hd _ _ _ _ _ ht] at h
        have hw2 : 0 ≤ w * (36 - thr j b) := Int.mul_nonneg hw (by have := thr_hi j b; omega)
        obtain ⟨g1, g2, g3, g4⟩ := rd_bd r _ _ _ _ x y (by unfold cap; omega) (by unfold cap; omega) h
        exact ⟨g1, g2, by simp; omega, g4.trans (List.suffix_cons _ _)⟩
theorem dig_split (v t : Int) (h1 : 1 ≤ t) (h2 : t ≤ 26) : v = t + (v - t) % (36 - t) + (36 - t) * ((v - t) / (36 - t)) := by
  have := Int.emod_add_mul_ediv (v - t) (36 - t); omega
/-- What is written is read back. -/
theorem rd_dig : ∀ (f : Nat) (v : Int) (_ : v.toNat < f) (j x w b : Int) (r : List UInt8), 0 ≤ v → 0 ≤ x → 0 ≤ w → x + v * w ≤ 2147483647 →
    rd ((digs f v j b).map dgt ++ r) j x w b = some (x + v * w, r)
  | 0, _, h, _, _, _, _, _, _, _, _, _ => by omega
  | f + 1, v, hf, j, x, w, b, r, hv, hx, hw, hb => by
    have t1 := thr_lo j b; have t2 := thr_hi j b
    unfold digs
    by_cases h : v < thr j b
    · rw [if_pos h]
      show rd (dgt v :: ([] ++ r)) j x w b = _
      rw [rd_last (dgt_val v hv (by omega)) _ _ _ _ _ h]
      simp only [cap, List.nil_append]
      rw [Int.min_eq_left (by omega)]
    · rw [if_neg h]
      obtain ⟨s1, s2⟩ := step_lt v (thr j b) hv t1 t2 h
      have m1 := Int.emod_nonneg (v - thr j b) (show 36 - thr j b ≠ 0 by omega)
      have m2 := Int.emod_lt_of_pos (v - thr j b) (show 0 < 36 - thr j b by omega)
      have hs := dig_split v (thr j b) t1 t2
      generalize hq : (v - thr j b) / (36 - thr j b) = q at *
      generalize hd : thr j b + (v - thr j b) % (36 - thr j b) = d at *
      have hdb : 0 ≤ d ∧ d ≤ 35 := by omega
      show rd (dgt d :: ((digs f q (j + 1) b).map dgt ++ r)) j x w b = _
      rw [rd_more (dgt_val d hdb.1 hdb.2) _ _ _ _ _ (by omega)]
      have e1 : v * w = d * w + q * (w * (36 - thr j b)) := by
        conv => lhs; rw [hs]
        rw [Int.add_mul, Int.mul_comm (36 - thr j b) q, Int.mul_assoc, Int.mul_comm (36 - thr j b) w]
      have p1 : 0 ≤ d * w := Int.mul_nonneg hdb.1 hw
      have p2 : 0 ≤ w * (36 - thr j b) := Int.mul_nonneg hw (by omega)
      have p3 : 0 ≤ q * (w * (36 - thr j b)) := Int.mul_nonneg s1 p2
      have c1 : cap (x + d * w) = x + d * w := by unfold cap; omega
      rw [c1]
      by_cases hc : w * (36 - thr j b) ≤ 2147483648
      · have c2 : cap (w * (36 - thr j b)) = w * (36 - thr j b) := by unfold cap; omega
        rw [c2, rd_dig f q (by omega) (j + 1) (x + d * w) _ b r s1 (by omega) p2 (by omega)]
        congr 2; omega
      · have c2 : cap (w * (36 - thr j b)) = 2147483648 := by unfold cap; omega
        have hq0 : q = 0 := by
          rcases Int.lt_or_le 0 q with h0 | h0
          · have : 1 * (w * (36 - thr j b)) ≤ q * (w * (36 - thr j b)) := Int.mul_le_mul_of_nonneg_right (by omega) p2
            omega
          · omega
        subst hq0
        rw [c2, rd_dig f 0 (by omega) (j + 1) (x + d * w) _ b r s1 (by omega) (by omega) (by omega)]
        congr 2; omega
theorem rd_back (v b : Int) (r : List UInt8) (h0 : 0 ≤ v) (h1 : v ≤ 2147483647) : rd ((dig v b).map dgt ++ r) 0 0 1 b = some (v, r) := by
  have := rd_dig (v.toNat + 1) v (by omega) 0 0 1 b r h0 (by omega) (by omega) (by omega)
  unfold dig
  rw [this]; congr 2; omega
def noCap (s : List UInt8) : Prop := ∀ c ∈ s, ¬ (65 ≤ c.toNat ∧ c.toNat ≤ 90)
/-- What is read, if it is not too great and has no capital letter, is what is written. -/
theorem dig_rd : ∀ (s : List UInt8) (j x w b v : Int) (r : List UInt8), noCap s → 0 ≤ x → 1 ≤ w → rd s j x w b = some (v, r) → v ≤ 2147483647 →
    ∃ u, 0 ≤ u ∧ v = x + u * w ∧ s = (digJ u j b).map dgt ++ r
  | [], _, _, _, _, _, _, _, _, _, h, _ => by cases h
  | c :: s, j, x, w, b, v, r, hn, hx, hw, h, hv => by
    have t1 := thr_lo j b; have t2 := thr_hi j b
    cases hd : dval c with
    | none => rw [rd_bad hd] at h; cases h
    | some d =>
      have hb := dval_bd hd
      have hc := dgt_of_val hd (hn c (by simp))
      have p1 : 0 ≤ d * w := Int.mul_nonneg hb.1 (by omega)
      by_cases ht : d < thr j b
      · rw [rd_last hd _ _ _ _ _ ht] at h
        injection h with h; injection h with h1 h2
        subst h2
        refine ⟨d, hb.1, ?_, ?_⟩
        · unfold cap at h1; omega
        · rw [digJ_last d j b ht]; simp [hc]
      · rw [rd_more hd _ _ _ _ _ ht] at h
        have p2 : 1 * 1 ≤ w * (36 - thr j b) := Int.mul_le_mul hw (by omega) (by omega) (by omega)
        obtain ⟨u, hu0, hu1, hu2⟩ := dig_rd s (j + 1) (cap (x + d * w)) (cap (w * (36 - thr j b))) b v r (fun y hy => hn y (by simp [hy])) (by unfold cap; omega) (by unfold cap; omega) h hv
        have p3 : 0 ≤ u * cap (w * (36 - thr j b)) := Int.mul_nonneg hu0 (by unfold cap; omega)
        have c1 : cap (x + d * w) = x + d * w := by unfold cap at hu1 p3 ⊢; omega
        have c2 : u * cap (w * (36 - thr j b)) = u * (w * (36 - thr j b)) := by
          by_cases hcp : w * (36 - thr j b) ≤ 2147483648
          · have : cap (w * (36 - thr j b)) = w * (36 - thr j b) := by unfold cap; omega
            rw [this]
          · have e : cap (w * (36 - thr j b)) = 2147483648 := by unfold cap; omega
            have : u = 0 := by rw [c1, e] at hu1; omega
            subst this; simp
        rw [c1, c2] at hu1
        have hdt : 0 ≤ d - thr j b := by omega
        have hdm : (d + u * (36 - thr j b) - thr j b) % (36 - thr j b) = d - thr j b := by
          rw [show d + u * (36 - thr j b) - thr j b = (d - thr j b) + (36 - thr j b) * u by rw [Int.mul_comm]; omega, Int.add_mul_emod_self_left, Int.emod_eq_of_lt hdt (by omega)]
        have hdd : (d + u * (36 - thr j b) - thr j b) / (36 - thr j b) = u := by
          rw [show d + u * (36 - thr j b) - thr j b = (d - thr j b) + (36 - thr j b) * u by rw [Int.mul_comm]; omega, Int.add_mul_ediv_left _ _ (by omega), Int.ediv_eq_zero_of_lt hdt (by omega)]
          omega
        have p4 : 0 ≤ u * (36 - thr j b) := Int.mul_nonneg hu0 (by omega)
        refine ⟨d + u * (36 - thr j b), by omega, ?_, ?_⟩
        · rw [hu1, Int.add_mul, Int.mul_assoc, Int.mul_comm (36 - thr j b) w]; omega
        · rw [digJ_step _ j b (by omega) (by omega), hdm, hdd]
          simp only [List.map_cons, List.cons_append]
          rw [← hu2, show thr j b + (d - thr j b) = d by omega, hc]
end Go.Proofs.Ytoihjbiahccaaaa.Pn
