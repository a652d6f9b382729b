/- The plain law of Format: what it writes is read back by Parse. -/
import Derived.Test.YtddieenjdaociaaGreatDoorRqAZ
import Derived.Lib.ItoaNum
import Derived.Shelf.Strings.OnBuilder
namespace Go.Proofs.YtddieenjdaociaaGreatDoor
open Go

theorem dg_app : ∀ (l r : List UInt8) (n : Int), Rq.dg (l ++ r) n = (Rq.dg l n).bind (Rq.dg r)
  | [], r, n => rfl
  | b :: l, r, n => by
    rw [List.cons_append]
    by_cases h : 48 ≤ b.toNat ∧ b.toNat ≤ 57
    · rw [dg_good _ _ h, dg_good _ _ h]; exact dg_app l r _
    · rw [dg_bad _ _ h, dg_bad _ _ h]; rfl
theorem digit_val (u : Nat) (h : u < 10) : (UInt8.ofNat (48 + u)).toNat = 48 + u := by rw [UInt8.toNat_ofNat']; omega
theorem dg_one (u : Nat) (h : u < 10) (n : Int) : Rq.dg [UInt8.ofNat (48 + u)] n = some (10 * n + (u : Int)) := by
  rw [dg_good _ _ (by rw [digit_val u h]; omega), digit_val u h]
  show some _ = some _
  congr 1; omega
theorem dd_lt {u : Nat} (h : u < 10) : Lib.decDigits u = [UInt8.ofNat (48 + u)] := by rw [Lib.decDigits, dif_pos h]
theorem dd_ge {u : Nat} (h : ¬ u < 10) : Lib.decDigits u = Lib.decDigits (u / 10) ++ [UInt8.ofNat (48 + u % 10)] := by rw [Lib.decDigits, dif_neg h]
theorem dg_dec : ∀ (f u : Nat), u < f → Rq.dg (Lib.decDigits u) 0 = some (u : Int)
  | 0, u, h => by omega
  | f + 1, u, h => by
    by_cases h10 : u < 10
    · rw [dd_lt h10, dg_one u h10]; congr 1; omega
    · rw [dd_ge h10, dg_app, dg_dec f (u / 10) (by omega)]
      show Rq.dg [UInt8.ofNat (48 + u % 10)] ((u / 10 : Nat) : Int) = _
      rw [dg_one _ (by omega)]
      congr 1; omega
theorem dd_len : ∀ (k u : Nat), 0 < k → u < 10 ^ k → (Lib.decDigits u).length ≤ k
  | 0, u, h, _ => by omega
  | k + 1, u, _, h => by
    by_cases h10 : u < 10
    · rw [dd_lt h10]; simp
    · have hk : 0 < k := by
        rcases Nat.eq_zero_or_pos k with h0 | h0
        · subst h0; omega
        · exact h0
      have hu : u / 10 < 10 ^ k := by rw [Nat.pow_succ] at h; omega
      have := dd_len k (u / 10) hk hu
      rw [dd_ge h10]; simp; omega
theorem dd_digit : ∀ (f u : Nat), u < f → ∀ c ∈ Lib.decDigits u, 48 ≤ c.toNat ∧ c.toNat ≤ 57
  | 0, u, h => by omega
  | f + 1, u, h => by
    intro c hc
    by_cases h10 : u < 10
    · rw [dd_lt h10] at hc
      rw [List.mem_singleton.1 hc, digit_val u h10]; omega
    · rw [dd_ge h10] at hc
      rcases List.mem_append.1 hc with hc | hc
      · exact dd_digit f (u / 10) (by omega) c hc
      · rw [List.mem_singleton.1 hc, digit_val _ (by omega)]; omega
theorem dd_ne (u : Nat) : Lib.decDigits u ≠ [] := by
  by_cases h10 : u < 10
  · rw [dd_lt h10]; simp
  · rw [dd_ge h10]; simp
theorem dd_head : ∀ (f u : Nat), u < f → 1 ≤ u → (Lib.decDigits u)[0]? ≠ some 48
  | 0, u, h, _ => by omega
  | f + 1, u, h, h1 => by
    by_cases h10 : u < 10
    · rw [dd_lt h10]
      intro e
      have e2 : UInt8.ofNat (48 + u) = 48 := by simpa using e
      have := digit_val u h10
      rw [e2] at this
      have h48 : (48 : UInt8).toNat = 48 := rfl
      omega
    · rw [dd_ge h10]
      have hl : 0 < (Lib.decDigits (u / 10)).length := List.length_pos_iff.2 (dd_ne _)
      rw [List.getElem?_append_left hl]
      exact dd_head f (u / 10) (by omega) (by omega)
theorem dec_itoa (n : Int) (h1 : 1 ≤ n) (h2 : n ≤ 1073741824) : Rq.dec (Lib.itoa n) = some n := by
  have hi : Lib.itoa n = Lib.decDigits n.toNat := by unfold Lib.itoa; rw [if_neg (by omega)]
  rw [hi]
  have hl := dd_len 10 n.toNat (by omega) (by omega)
  unfold Rq.dec
  rw [if_neg, dg_dec (n.toNat + 1) n.toNat (by omega)]
  · congr 1; omega
  · rintro (h | h | ⟨h, _⟩)
    · exact dd_ne _ h
    · omega
    · exact dd_head (n.toNat + 1) n.toNat (by omega) (by omega) h
/-- Words with spaces between them. -/
def Rq.jn : List (List UInt8) → List UInt8
  | [] => []
  | [w] => w
  | w :: v :: r => w ++ 32 :: Rq.jn (v :: r)
theorem jn_join : ∀ (l : List (List UInt8)), Lib.join l [32] = Rq.jn l
  | [] => rfl
  | [w] => by simp [Lib.join, List.intercalate, Rq.jn]
  | w :: v :: r => by
    have h := jn_join (v :: r)
    unfold Lib.join List.intercalate at h ⊢
    rw [show Rq.jn (w :: v :: r) = w ++ 32 :: Rq.jn (v :: r) from rfl, ← h]
    simp
theorem spl_jn : ∀ (l : List (List UInt8)), l ≠ [] → (∀ w ∈ l, (32 : UInt8) ∉ w) → Rq.spl (Rq.jn l) = l
  | [], h, _ => absurd rfl h
  | [w], _, hw => spl_last (hw w (by simp))
  | w :: v :: r, _, hw => by
    show Rq.spl (w ++ 32 :: Rq.jn (v :: r)) = _
    rw [Rq.spl_word _ _ (hw w (by simp)), Rq.spl_space, spl_jn (v :: r) (by simp) (fun x hx => hw x (List.mem_cons_of_mem _ hx))]
    simp [Rq.pre]
theorem names_quote : ∀ (ns : List (List UInt8)), Rq.names (ns.map Rq.quote) = some ns
  | [] => rfl
  | x :: r => by
    have h := Rq.unquote_quote x
    rw [List.map_cons, names_good _ (by rw [h]), names_quote r, h]; rfl
/-- The words of a request's text, and the text. -/
def Rq.fwords (op ttl : Int) (ns : List (List UInt8)) : List (List UInt8) := Rq.wd op.toNat :: ((if Rq.timed op then [Lib.itoa ttl] else []) ++ ns.map Rq.quote)
def Rq.ftext (op ttl : Int) (ns : List (List UInt8)) : List UInt8 := Rq.jn (Rq.fwords op ttl ns)
theorem wd_no : ∀ j : Fin 8, (32 : UInt8) ∉ Rq.wd j.val := by decide
theorem fwords_no (op ttl : Int) (ns : List (List UInt8)) (h0 : 0 < op) (h7 : op ≤ 7) : ∀ w ∈ Rq.fwords op ttl ns, (32 : UInt8) ∉ w := by
  intro w hw
  unfold Rq.fwords at hw
  rcases List.mem_cons.1 hw with rfl | hw
  · exact wd_no ⟨op.toNat, by omega⟩
  · rcases List.mem_append.1 hw with hw | hw
    · split at hw
      · rw [List.mem_singleton.1 hw]
        unfold Lib.itoa
        intro h
        split at h
        · rcases List.mem_cons.1 h with h | h
          · cases h
          · have := (dd_digit _ _ (Nat.lt_succ_self _) 32 h).1
            revert this; decide
        · have := (dd_digit _ _ (Nat.lt_succ_self _) 32 h).1
          revert this; decide
      · cases hw
    · obtain ⟨x, _, rfl⟩ := List.mem_map.1 hw
      intro h
      have := (Rq.quote_vis x 32 h).1
      revert this; decide
theorem round (op ttl : Int) (ns : List (List UInt8)) (h0 : 0 < op) (h7 : op ≤ 7) (ht : Rq.ttl op ttl = true) (hn : ¬ (op = 7 ∧ ns.length ≠ 1)) (hl : (Rq.ftext op ttl ns).length ≤ 4096) :
    Rq.parse (Rq.ftext op ttl ns) = ⟨op, ttl, ns, 0⟩ := by
  have hs : Rq.spl (Rq.ftext op ttl ns) = Rq.fwords op ttl ns := spl_jn _ (by unfold Rq.fwords; simp) (fwords_no op ttl ns h0 h7)
  have ho : Rq.oper (Rq.wd op.toNat) = op := by have := Rq.oper_at op.toNat (by omega) (by omega); rw [this]; omega
  unfold Rq.parse
  rw [if_neg (by omega), hs]
  show Rq.words (Rq.oper (Rq.wd op.toNat)) ((if Rq.timed op then [Lib.itoa ttl] else []) ++ ns.map Rq.quote) = _
  rw [ho, words_in (by omega)]
  have hr : Rq.rest op ttl (ns.map Rq.quote) = ⟨op, ttl, ns, 0⟩ := by
    rw [rest_good (names_quote ns), if_neg hn, if_pos ht]
  cases htm : Rq.timed op
  · rw [if_neg (by decide), if_neg (by decide)]
    have : ttl = 0 := by unfold Rq.ttl at ht; rw [htm] at ht; simpa using ht
    subst this
    exact hr
  · rw [if_pos rfl, if_pos rfl]
    have hb : 1 ≤ ttl ∧ ttl ≤ 1073741824 := by unfold Rq.ttl at ht; rw [htm] at ht; simpa using ht
    show (match Rq.dec (Lib.itoa ttl) with | none => _ | some n => Rq.rest op n (ns.map Rq.quote)) = _
    rw [dec_itoa ttl hb.1 hb.2]
    exact hr
end Go.Proofs.YtddieenjdaociaaGreatDoor
