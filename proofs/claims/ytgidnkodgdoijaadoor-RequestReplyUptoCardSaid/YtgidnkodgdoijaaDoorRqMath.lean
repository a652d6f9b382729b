/- The plain law of layer 27: quotations, words, numbers, requests. No program in sight. -/
import Derived.Test.YtgidnkodgdoijaaDoorBase
namespace Go.Proofs.YtgidnkodgdoijaaDoor.Rq
/-- A byte that stands for itself. -/
def pl (b : UInt8) : Bool := decide (33 ≤ b.toNat ∧ b.toNat ≤ 126 ∧ b.toNat ≠ 34 ∧ b.toNat ≠ 37)
/-- The value of a hexadecimal digit, or -1. -/
def hx (b : UInt8) : Int := if 48 ≤ b.toNat ∧ b.toNat ≤ 57 then (b.toNat : Int) - 48 else if 65 ≤ b.toNat ∧ b.toNat ≤ 70 then (b.toNat : Int) - 55 else -1
theorem hx_bd (b : UInt8) : -1 ≤ hx b ∧ hx b ≤ 15 := by unfold hx; split <;> (try split) <;> omega
def two (x y : UInt8) : UInt8 := UInt8.ofNat (hx x * 16 + hx y).toNat
def unq : List UInt8 → Option (List UInt8)
  | [] => some []
  | [b] => if pl b then some [b] else none
  | [b, c] => if pl b then (unq [c]).map (b :: ·) else none
  | b :: x :: y :: r => if pl b then (unq (x :: y :: r)).map (b :: ·) else if b = 37 ∧ 0 ≤ hx x ∧ 0 ≤ hx y then (unq r).map (two x y :: ·) else none
theorem unq_nil : unq [] = some [] := by unfold unq; rfl
theorem unq_pl {b : UInt8} (r : List UInt8) (h : pl b = true) : unq (b :: r) = (unq r).map (b :: ·) := by
  match r with
  | [] => conv => lhs; unfold unq; rw [if_pos h]; 
          rw [unq_nil]; rfl
  | [c] => conv => lhs; unfold unq; rw [if_pos h]
  | x :: y :: r => conv => lhs; unfold unq; rw [if_pos h]
theorem unq_two (x y : UInt8) (r : List UInt8) (hx0 : 0 ≤ hx x) (hy0 : 0 ≤ hx y) : unq (37 :: x :: y :: r) = (unq r).map (two x y :: ·) := by
  conv => lhs; unfold unq
  rw [if_neg (by decide), if_pos ⟨rfl, hx0, hy0⟩]
theorem unq_bad {b : UInt8} (r : List UInt8) (h : pl b = false) (h37 : b ≠ 37) : unq (b :: r) = none := by
  have hn : ¬ pl b = true := by rw [h]; decide
  match r with
  | [] => unfold unq; rw [if_neg hn]
  | [c] => unfold unq; rw [if_neg hn]
  | x :: y :: r => unfold unq; rw [if_neg hn, if_neg (fun e => h37 e.1)]
theorem unq_short (r : List UInt8) (h : r.length < 2) : unq (37 :: r) = none := by
  match r, h with
  | [], _ => unfold unq; rw [if_neg (by decide)]
  | [c], _ => unfold unq; rw [if_neg (by decide)]
  | x :: y :: r, h => simp at h; omega
theorem unq_hex (x y : UInt8) (r : List UInt8) (h : ¬ (0 ≤ hx x ∧ 0 ≤ hx y)) : unq (37 :: x :: y :: r) = none := by
  unfold unq
  rw [if_neg (by decide), if_neg (fun e => h e.2)]
def unquote (w : List UInt8) : List UInt8 × Bool := if w = [34, 34] then ([], true) else match unq w with
  | none => ([], false)
  | some l => (l, !l.isEmpty)
/-- A hexadecimal digit. -/
def hd (n : Nat) : UInt8 := [48, 49, 50, 51, 52, 53, 54, 55, 56, 57, 65, 66, 67, 68, 69, 70].getD n 0
/-- A byte in a quotation. -/
def qb (b : UInt8) : List UInt8 := if pl b then [b] else [37, hd (b.toNat / 16), hd (b.toNat % 16)]
def qs : List UInt8 → List UInt8
  | [] => []
  | b :: r => qb b ++ qs r
def quote (l : List UInt8) : List UInt8 := if l = [] then [34, 34] else qs l
theorem qb_len (b : UInt8) : 1 ≤ (qb b).length ∧ (qb b).length ≤ 3 := by unfold qb; split <;> simp
theorem qs_append : ∀ (l r : List UInt8), qs (l ++ r) = qs l ++ qs r
  | [], r => rfl
  | b :: l, r => by rw [List.cons_append]; show qb b ++ qs (l ++ r) = qb b ++ qs l ++ qs r; rw [qs_append l r, List.append_assoc]
theorem qs_len : ∀ (l : List UInt8), l.length ≤ (qs l).length ∧ (qs l).length ≤ 3 * l.length
  | [] => by simp [qs]
  | b :: l => by have := qs_len l; have := qb_len b; show _ ≤ (qb b ++ qs l).length ∧ (qb b ++ qs l).length ≤ _; simp; omega
theorem qs_take {l : List UInt8} {j : Nat} {b : UInt8} (h : l[j]? = some b) : qs (l.take (j + 1)) = qs (l.take j) ++ qb b := by
  obtain ⟨h1, h2⟩ := List.getElem?_eq_some_iff.1 h
  rw [List.take_succ_eq_append_getElem h1, h2, qs_append]
  simp [qs]
theorem hx_hd : ∀ n : Fin 16, hx (hd n.val) = (n.val : Int) := by decide
theorem two_hd : ∀ n : Fin 256, two (hd (n.val / 16)) (hd (n.val % 16)) = UInt8.ofNat n.val := by decide +kernel
theorem two_of (b : UInt8) : two (hd (b.toNat / 16)) (hd (b.toNat % 16)) = b := by
  have h := two_hd ⟨b.toNat, b.toNat_lt⟩
  simpa using h
theorem hd_hx (n : Nat) (h : n < 16) : 0 ≤ hx (hd n) := by have := hx_hd ⟨n, h⟩; simp only at this; omega
/-- What is quoted is unquoted. -/
theorem unq_qs : ∀ (l : List UInt8), unq (qs l) = some l
  | [] => unq_nil
  | b :: l => by
    show unq (qb b ++ qs l) = _
    unfold qb
    cases hp : pl b
    · rw [if_neg (by decide)]
      show unq (37 :: hd (b.toNat / 16) :: hd (b.toNat % 16) :: qs l) = _
      have hlt := b.toNat_lt
      rw [unq_two _ _ _ (hd_hx _ (by omega)) (hd_hx _ (by omega)), unq_qs l, two_of]; rfl
    · rw [if_pos rfl]
      show unq (b :: qs l) = _
      rw [unq_pl _ hp, unq_qs l]; rfl
theorem hd_plain : ∀ n : Fin 16, 33 ≤ (hd n.val).toNat ∧ (hd n.val).toNat ≤ 126 ∧ (hd n.val).toNat ≠ 34 := by decide
theorem qb_vis (b : UInt8) : ∀ c ∈ qb b, 33 ≤ c.toNat ∧ c.toNat ≤ 126 ∧ c.toNat ≠ 34 := by
  intro c hc
  unfold qb at hc
  split at hc
  · rename_i h
    rw [List.mem_singleton.1 hc]
    have := of_decide_eq_true h
    omega
  · have hlt := b.toNat_lt
    have h1 := hd_plain ⟨b.toNat / 16, by omega⟩
    have h2 := hd_plain ⟨b.toNat % 16, by omega⟩
    simp only [List.mem_cons, List.not_mem_nil, or_false] at hc
    rcases hc with rfl | rfl | rfl
    · decide
    · exact h1
    · exact h2
theorem qs_vis : ∀ (l : List UInt8), ∀ c ∈ qs l, 33 ≤ c.toNat ∧ c.toNat ≤ 126 ∧ c.toNat ≠ 34
  | [], c, h => by cases h
  | b :: l, c, h => by
    rcases List.mem_append.1 (show c ∈ qb b ++ qs l from h) with h | h
    · exact qb_vis b c h
    · exact qs_vis l c h
theorem quote_vis (l : List UInt8) : ∀ c ∈ quote l, 33 ≤ c.toNat ∧ c.toNat ≤ 126 := by
  intro c hc
  unfold quote at hc
  split at hc
  · simp at hc; subst hc; decide
  · have := qs_vis l c hc; omega
theorem qs_ne {l : List UInt8} (h : l ≠ []) : qs l ≠ [] := by
  intro e
  have h1 := (qs_len l).1
  rw [e] at h1
  exact h (List.eq_nil_of_length_eq_zero (by simpa using h1))
theorem qs_not (l : List UInt8) : qs l ≠ [34, 34] := by
  intro e
  have := (qs_vis l 34 (by rw [e]; simp)).2.2
  exact this rfl
theorem unquote_quote (l : List UInt8) : unquote (quote l) = (l, true) := by
  unfold quote
  by_cases h : l = []
  · rw [if_pos h, h]; rfl
  · rw [if_neg h]
    unfold unquote
    rw [if_neg (qs_not l), unq_qs l]
    cases l with
    | nil => exact absurd rfl h
    | cons a b => rfl
theorem quote_len (l : List UInt8) : 1 ≤ (quote l).length ∧ l.length ≤ (quote l).length ∧ (quote l).length ≤ 3 * l.length + 2 := by
  unfold quote
  split
  · rename_i h; subst h; simp
  · rename_i h
    have := qs_len l
    have : 0 < l.length := List.length_pos_iff.2 h
    omega
/-- The words of a text. -/
def spl : List UInt8 → List (List UInt8)
  | [] => [[]]
  | b :: r => if b = 32 then [] :: spl r else match spl r with
    | [] => [[b]]
    | h :: t => (b :: h) :: t
theorem spl_ne (l : List UInt8) : spl l ≠ [] := by
  cases l with
  | nil => simp [spl]
  | cons b r => unfold spl; split <;> (try split) <;> simp
/-- A word ahead of the rest. -/
def pre (x : List UInt8) : List (List UInt8) → List (List UInt8)
  | [] => [x]
  | h :: t => (x ++ h) :: t
theorem pre_nil {l : List (List UInt8)} (h : l ≠ []) : pre [] l = l := by cases l with | nil => exact absurd rfl h | cons a b => rfl
theorem spl_cons {b : UInt8} (r : List UInt8) (h : b ≠ 32) : spl (b :: r) = pre [b] (spl r) := by
  conv => lhs; unfold spl
  rw [if_neg h]
  have := spl_ne r
  cases hs : spl r with
  | nil => exact absurd hs this
  | cons a t => rfl
theorem spl_space (r : List UInt8) : spl (32 :: r) = [] :: spl r := by conv => lhs; unfold spl; rw [if_pos rfl]
theorem pre_pre (x y : List UInt8) (l : List (List UInt8)) (h : l ≠ []) : pre x (pre y l) = pre (x ++ y) l := by
  cases l with | nil => exact absurd rfl h | cons a b => simp [pre]
theorem spl_word : ∀ (x : List UInt8) (r : List UInt8), (32 : UInt8) ∉ x → spl (x ++ r) = pre x (spl r)
  | [], r, _ => (pre_nil (spl_ne r)).symm
  | b :: x, r, h => by
    have hb : b ≠ 32 := fun e => h (by rw [e]; simp)
    rw [List.cons_append, spl_cons _ hb, spl_word x r (fun e => h (List.mem_cons_of_mem _ e)), pre_pre _ _ _ (spl_ne r)]; rfl
theorem spl_len : ∀ (l : List UInt8), (spl l).length ≤ l.length + 1
  | [] => by simp [spl]
  | b :: r => by
    have h := spl_len r
    unfold spl
    split
    · simp; exact h
    · split
      · simp
      · rename_i h2; rw [h2] at h; simp at h ⊢; omega
theorem spl_mem : ∀ (l : List UInt8) (x : List UInt8), x ∈ spl l → x.length ≤ l.length
  | [], x, h => by simp [spl] at h; subst h; simp
  | b :: r, x, h => by
    have hr := spl_mem r
    unfold spl at h
    split at h
    · rcases List.mem_cons.1 h with h | h
      · subst h; simp
      · have := hr x h; simp; omega
    · split at h
      · simp at h; subst h; simp
      · rename_i h2
        rcases List.mem_cons.1 h with h | h
        · subst h
          have := hr _ (by rw [h2]; exact List.mem_cons_self ..)
          simp; exact this
        · have := hr x (by rw [h2]; exact List.mem_cons_of_mem _ h)
          simp; omega
/-- The operation of a word, or 0. -/
def oper (w : List UInt8) : Int := if w = [72, 79, 76, 68] then 1 else if w = [67, 79, 78, 70, 73, 82, 77] then 2 else if w = [82, 69, 78, 69, 87] then 3 else if w = [67, 65, 78, 67, 69, 76] then 4
  else if w = [82, 69, 76, 69, 65, 83, 69] then 5 else if w = [80, 85, 82, 71, 69] then 6 else if w = [81, 85, 69, 82, 89] then 7 else 0
def timed (op : Int) : Bool := decide (op = 1 ∨ op = 3)
def dg : List UInt8 → Int → Option Int
  | [], n => some n
  | b :: r, n => if 48 ≤ b.toNat ∧ b.toNat ≤ 57 then dg r (10 * n + ((b.toNat : Int) - 48)) else none
def dec (w : List UInt8) : Option Int := if w = [] ∨ 10 < w.length ∨ (w[0]? = some 48 ∧ 1 < w.length) then none else dg w 0
def ttl (op n : Int) : Bool := if timed op then decide (1 ≤ n ∧ n ≤ 1073741824) else decide (n = 0)
structure R where
  op : Int
  ttl : Int
  names : List (List UInt8)
  err : Int
def names : List (List UInt8) → Option (List (List UInt8))
  | [] => some []
  | w :: r => if (unquote w).2 then (names r).map ((unquote w).1 :: ·) else none
def rest (op n : Int) (l : List (List UInt8)) : R := match names l with
  | none => ⟨0, 0, [], 4⟩
  | some ns => if op = 7 ∧ ns.length ≠ 1 then ⟨0, 0, [], 4⟩ else if ttl op n then ⟨op, n, ns, 0⟩ else ⟨0, 0, [], 3⟩
def words (op : Int) (l : List (List UInt8)) : R := if op = 0 then ⟨0, 0, [], 4⟩ else if timed op then (match l with
  | [] => ⟨0, 0, [], 4⟩
  | t :: r => match dec t with
    | none => ⟨0, 0, [], 4⟩
    | some n => rest op n r) else rest op 0 l
def parse (s : List UInt8) : R := if 4096 < s.length then ⟨0, 0, [], 7⟩ else words (oper ((spl s).headD [])) (spl s).tail
end Go.Proofs.YtgidnkodgdoijaaDoor.Rq
