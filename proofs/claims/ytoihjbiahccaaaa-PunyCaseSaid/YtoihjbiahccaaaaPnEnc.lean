/- Punycode: how the writing goes on, place by place. Plain lists, no program in sight. -/
import Derived.Test.YtoihjbiahccaaaaPnDec
set_option linter.unusedVariables false
namespace Go.Proofs.Ytoihjbiahccaaaa.Pn
/-- Behind the places before k of the pass at m: what is written so far, and the number so far. -/
structure EI (l : List Int) (m : Int) (k : Nat) (st : St) (D : Int) (pre : List Int) : Prop where
  h : st.h = (PL l m k).length
  d : D + st.i = (m - st.n) * ((st.h : Int) + 1) + cle (l.take k) m
  n0 : 0 ≤ st.n
  nm : st.n ≤ m
  i0 : 0 ≤ st.i
  d0 : 0 ≤ D
  b0 : 0 ≤ st.b
  b1 : st.b ≤ 720
  t : pre ++ tl l m k st = tl l 128 0 (st0 l)
theorem EI.start (l : List Int) : EI l 128 0 (st0 l) 0 [] :=
  ⟨by rw [PL_start]; rfl, by simp [st0, cle], by simp [st0], by simp [st0], by simp [st0], by omega, by simp [st0], by simp [st0], rfl⟩
theorem ge_at {l : List Int} {m : Int} {k q : Nat} {c : Int} (hq : l[q]? = some c) : Ge l m k q ↔ (m < c ∨ (c = m ∧ k ≤ q)) := by
  have h1 := (List.getElem?_eq_some_iff.1 hq).1
  have h2 : l.getD q 0 = c := by rw [List.getD_eq_getElem?_getD, hq]; rfl
  unfold Ge; rw [h2]; exact ⟨fun h => h.2, fun h => ⟨h1, h⟩⟩
theorem EI.min {l : List Int} {n m : Int} {st : St} {D : Int} {pre : List Int} (e : EI l n 0 st D pre) (hm : ∀ (q : Nat) (c : Int), l[q]? = some c → n ≤ c → m ≤ c) (hnm : n ≤ m) :
    EI l m 0 st (D + (m - n) * ((st.h : Int) + 1)) pre := by
  have hg : ∀ q, Ge l n 0 q ↔ Ge l m 0 q := by
    intro q
    by_cases hq : q < l.length
    · have h1 := hm q l[q] (List.getElem?_eq_getElem hq)
      rw [ge_at (List.getElem?_eq_getElem hq), ge_at (List.getElem?_eq_getElem hq)]
      omega
    · exact ⟨fun h => absurd h.1 hq, fun h => absurd h.1 hq⟩
  have hp : 0 ≤ (m - n) * ((st.h : Int) + 1) := Int.mul_nonneg (by omega) (by omega)
  refine ⟨by rw [e.h, PL_move hg], ?_, e.n0, by have := e.nm; omega, e.i0, by have := e.d0; omega, e.b0, e.b1, by rw [← tl_move hg]; exact e.t⟩
  have h1 := e.d
  have h2 : (m - st.n) * ((st.h : Int) + 1) = (n - st.n) * ((st.h : Int) + 1) + (m - n) * ((st.h : Int) + 1) := by
    rw [← Int.add_mul]; congr 1; omega
  rw [h2]
  simp only [List.take_zero] at h1 ⊢
  have e1 : cle [] n = 0 := rfl
  have e2 : cle [] m = 0 := rfl
  rw [e1] at h1; rw [e2]
  omega
theorem cle_succ {l : List Int} {k : Nat} {c m : Int} (hk : l[k]? = some c) : cle (l.take (k + 1)) m = cle (l.take k) m + (if c ≤ m then 1 else 0) := by
  obtain ⟨h1, h2⟩ := List.getElem?_eq_some_iff.1 hk
  rw [List.take_succ_eq_append_getElem h1, h2]
  unfold cle
  rw [List.countP_append, List.countP_cons, List.countP_nil]
  simp
theorem ge_skip {l : List Int} {k : Nat} {c m : Int} (hk : l[k]? = some c) (hc : c ≠ m) (q : Nat) : Ge l m k q ↔ Ge l m (k + 1) q := by
  by_cases hq : q < l.length
  · by_cases he : q = k
    · subst he
      rw [ge_at hk, ge_at hk]; omega
    · rw [ge_at (List.getElem?_eq_getElem hq), ge_at (List.getElem?_eq_getElem hq)]; omega
  · exact ⟨fun h => absurd h.1 hq, fun h => absurd h.1 hq⟩
theorem EI.lt {l : List Int} {m : Int} {k : Nat} {st : St} {D : Int} {pre : List Int} {c : Int} (e : EI l m k st D pre) (hk : l[k]? = some c) (hc : c < m) : EI l m (k + 1) st (D + 1) pre := by
  have hg := ge_skip hk (show c ≠ m by omega)
  refine ⟨by rw [e.h, PL_move hg], ?_, e.n0, e.nm, e.i0, by have := e.d0; omega, e.b0, e.b1, by rw [← tl_move hg]; exact e.t⟩
  have := e.d
  rw [cle_succ hk, if_pos (by omega)]
  push_cast; omega
theorem EI.gt {l : List Int} {m : Int} {k : Nat} {st : St} {D : Int} {pre : List Int} {c : Int} (e : EI l m k st D pre) (hk : l[k]? = some c) (hc : m < c) : EI l m (k + 1) st D pre := by
  have hg := ge_skip hk (show c ≠ m by omega)
  refine ⟨by rw [e.h, PL_move hg], ?_, e.n0, e.nm, e.i0, e.d0, e.b0, e.b1, by rw [← tl_move hg]; exact e.t⟩
  have := e.d
  rw [cle_succ hk, if_neg (by omega)]
  exact this
theorem EI.eq {l : List Int} {m : Int} {k : Nat} {st : St} {D : Int} {pre : List Int} (e : EI l m k st D pre) (hk : l[k]? = some m) :
    ∃ st' : St, EI l m (k + 1) st' 0 (pre ++ dig D st.b) ∧ st'.b = adapt D ((st.h : Int) + 1) st.first ∧ st'.first = false ∧ st'.h = st.h + 1 := by
  have hkl := (List.getElem?_eq_some_iff.1 hk).1
  have hgd : l.getD k 0 = m := by rw [List.getD_eq_getElem?_getD, hk]; rfl
  have hx : IsNext l m k k := by
    refine ⟨(ge_at hk).2 (.inr ⟨rfl, Nat.le_refl _⟩), fun q hq => ?_⟩
    have := hq.2
    rw [hgd]; omega
  have hnum : num l st k = D := by
    have := e.d
    unfold num; rw [hgd]; omega
  have hbd := adapt_bd D ((st.h : Int) + 1) st.first
  refine ⟨emit l st k, ⟨?_, ?_, ?_, ?_, ?_, by omega, ?_, ?_, ?_⟩, ?_, rfl, rfl⟩
  · show st.h + 1 = _
    obtain ⟨h1, h2⟩ := PL_next hx
    rw [hgd] at h1 h2
    rw [e.h, h1, h2]; simp; omega
  · show (0 : Int) + ((cle (l.take k) (l.getD k 0) : Nat) + 1) = (m - l.getD k 0) * _ + _
    rw [hgd, cle_succ hk, if_pos (Int.le_refl _), Int.sub_self, Int.zero_mul]; push_cast; omega
  · show 0 ≤ l.getD k 0
    rw [hgd]; have := e.n0; have := e.nm; omega
  · show l.getD k 0 ≤ m
    rw [hgd]; exact Int.le_refl _
  · show 0 ≤ ((cle (l.take k) (l.getD k 0) : Nat) : Int) + 1
    omega
  · show 0 ≤ adapt (num l st k) _ _
    rw [hnum]; exact hbd.1
  · show adapt (num l st k) _ _ ≤ 720
    rw [hnum]; exact hbd.2
  · have h1 := tl_step hx st
    rw [hnum, hgd] at h1
    rw [List.append_assoc, ← h1]; exact e.t
  · show adapt (num l st k) _ _ = _
    rw [hnum]
theorem EI.next {l : List Int} {m : Int} {st : St} {D : Int} {pre : List Int} (e : EI l m l.length st D pre) : EI l (m + 1) 0 st (D + 1) pre := by
  have hg : ∀ q, Ge l m l.length q ↔ Ge l (m + 1) 0 q := by
    intro q
    by_cases hq : q < l.length
    · rw [ge_at (List.getElem?_eq_getElem hq), ge_at (List.getElem?_eq_getElem hq)]
      omega
    · exact ⟨fun h => absurd h.1 hq, fun h => absurd h.1 hq⟩
  have hc : cle l m = st.h := by
    have := e.h
    unfold PL at this
    rw [List.take_length, List.drop_length, List.filter_nil, List.append_nil, cle_len] at this
    omega
  refine ⟨by rw [e.h, PL_move hg], ?_, e.n0, by have := e.nm; omega, e.i0, by have := e.d0; omega, e.b0, e.b1, by rw [← tl_move hg]; exact e.t⟩
  have := e.d
  rw [List.take_length, hc] at this
  have h2 : (m + 1 - st.n) * ((st.h : Int) + 1) = (m - st.n) * ((st.h : Int) + 1) + ((st.h : Int) + 1) := by
    rw [show m + 1 - st.n = (m - st.n) + 1 by omega, Int.add_mul, Int.one_mul]
  rw [h2]
  have : cle (l.take 0) (m + 1) = 0 := rfl
  omega
theorem EI.done {l : List Int} {n : Int} {st : St} {D : Int} {pre : List Int} (e : EI l n 0 st D pre) (h : l.length ≤ st.h) : pre = tl l 128 0 (st0 l) := by
  have h1 := e.h
  have h2 := PL_len_le l n 0
  have h3 := PL_len_eq (l := l) (m := n) (k := 0) (by omega)
  have := e.t
  rw [tl_done h3, List.append_nil] at this
  exact this
theorem EI.hle {l : List Int} {m : Int} {k : Nat} {st : St} {D : Int} {pre : List Int} (e : EI l m k st D pre) : st.h ≤ l.length := by rw [e.h]; exact PL_len_le l m k
theorem cle_le (x : List Int) (c : Int) : cle x c ≤ x.length := List.countP_le_length
theorem EI.bound {l : List Int} {m : Int} {k : Nat} {st : St} {D : Int} {pre : List Int} (e : EI l m k st D pre) (hl : l.length ≤ 256) (hm : m ≤ 1114112) : D ≤ 286327040 := by
  have h1 := e.hle
  have h2 := cle_le (l.take k) m
  have h3 : (l.take k).length ≤ 256 := by rw [List.length_take]; omega
  have h4 := e.d; have h5 := e.i0; have h6 := e.n0; have h7 := e.nm
  have h8 : (m - st.n) * ((st.h : Int) + 1) ≤ 1114112 * ((st.h : Int) + 1) := Int.mul_le_mul_of_nonneg_right (by omega) (by omega)
  omega
theorem EI.step_bound {l : List Int} {m n : Int} {k : Nat} {st : St} {D : Int} {pre : List Int} (e : EI l n k st D pre) (hl : l.length ≤ 256) (hm : m ≤ 1114112) (hn : n ≤ m) (hn0 : 0 ≤ n) :
    0 ≤ (m - n) * ((st.h : Int) + 1) ∧ (m - n) * ((st.h : Int) + 1) ≤ 286326784 := by
  have h1 := e.hle
  have h8 : (m - n) * ((st.h : Int) + 1) ≤ 1114112 * ((st.h : Int) + 1) := Int.mul_le_mul_of_nonneg_right (by omega) (by omega)
  exact ⟨Int.mul_nonneg (by omega) (by omega), by omega⟩
theorem EI.some {l : List Int} {n : Int} {st : St} {D : Int} {pre : List Int} (e : EI l n 0 st D pre) (h : st.h < l.length) : ∃ (q : Nat) (c : Int), l[q]? = Option.some c ∧ n ≤ c := by
  obtain ⟨q, hq⟩ := PL_len_lt (l := l) (m := n) (k := 0) (by have := e.h; omega)
  have h1 := List.getElem?_eq_getElem hq.1
  refine ⟨q, _, h1, ?_⟩
  have := (ge_at h1).1 hq; omega
theorem EI.prefix_len {l : List Int} {m : Int} {k : Nat} {st : St} {D : Int} {pre : List Int} (e : EI l m k st D pre) (hl : l.length ≤ 256) (hs : ∀ c ∈ l, c ≤ 1114111) : pre.length ≤ 2560 := by
  have h1 := tl_len l hs hl l.length 128 0 (st0 l) (left_le _ _ _) (by omega) (inv_start l)
  have h2 := congrArg List.length e.t
  rw [List.length_append] at h2
  omega
/-- The least one that is not less than n, among the first k. -/
def mn (l : List Int) (n : Int) : Nat → Int
  | 0 => 1114112
  | k + 1 => if n ≤ l.getD k 0 then Min.min (mn l n k) (l.getD k 0) else mn l n k
theorem mn_succ {l : List Int} {n : Int} {k : Nat} {c : Int} (hk : l[k]? = Option.some c) : mn l n (k + 1) = if n ≤ c then Min.min (mn l n k) c else mn l n k := by
  have : l.getD k 0 = c := by rw [List.getD_eq_getElem?_getD, hk]; rfl
  show (if n ≤ l.getD k 0 then Min.min (mn l n k) (l.getD k 0) else mn l n k) = _
  rw [this]
theorem mn_ge (l : List Int) (n : Int) (hn : n ≤ 1114112) : ∀ k, n ≤ mn l n k ∧ mn l n k ≤ 1114112
  | 0 => ⟨hn, Int.le_refl _⟩
  | k + 1 => by
    have := mn_ge l n hn k
    unfold mn; split <;> omega
theorem mn_le (l : List Int) (n : Int) : ∀ (k q : Nat) (c : Int), q < k → l[q]? = Option.some c → n ≤ c → mn l n k ≤ c
  | 0, q, _, h, _, _ => by omega
  | k + 1, q, c, h, hq, hc => by
    by_cases e : q = k
    · subst e; rw [mn_succ hq, if_pos hc]; omega
    · have := mn_le l n k q c (by omega) hq hc
      unfold mn; split <;> omega
end Go.Proofs.Ytoihjbiahccaaaa.Pn
