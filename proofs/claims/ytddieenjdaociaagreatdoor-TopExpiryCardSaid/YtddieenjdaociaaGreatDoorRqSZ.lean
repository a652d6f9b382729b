/- Strings as lists of bytes; rows of bytes and of strings that the call itself has made. -/
import Derived.Test.YtddieenjdaociaaGreatDoorAppCoreZ
import Derived.Test.YtddieenjdaociaaGreatDoorRqFZ
namespace Go.Proofs.YtddieenjdaociaaGreatDoor
open Go Go.RowKit
set_option linter.unusedVariables false

def str (s : List UInt8) : ByteArray := ⟨s.toArray⟩
def lst (s : ByteArray) : List UInt8 := s.data.toList
theorem str_lst (s : ByteArray) : str (lst s) = s := by cases s; rfl
theorem lst_str (l : List UInt8) : lst (str l) = l := rfl
theorem lst_length (s : ByteArray) : (lst s).length = s.size := rfl
theorem str_size (l : List UInt8) : (str l).size = l.length := rfl
theorem lst_at (s : ByteArray) (j : Nat) (h : j < s.size) : (lst s)[j]? = some s[j] := by
  unfold lst
  rw [Array.getElem?_toList, Array.getElem?_eq_getElem (show j < s.data.size from h)]; rfl
theorem lst_drop (s : ByteArray) (j : Nat) (h : j < s.size) : (lst s).drop j = s[j] :: (lst s).drop (j + 1) := by
  have h1 := lst_at s j h
  obtain ⟨h2, h3⟩ := List.getElem?_eq_some_iff.1 h1
  rw [List.drop_eq_getElem_cons h2, h3]
theorem extract_drop (s : ByteArray) (k : Nat) (h : k ≤ s.size) : s.extract k s.size = str ((lst s).drop k) := by
  apply ByteArray.ext
  rw [ByteArray.data_extract]
  apply Array.toList_inj.1
  rw [Array.toList_extract]
  show (s.data.toList.drop k).take (s.size - k) = s.data.toList.drop k
  apply List.take_of_length_le
  rw [List.length_drop]; exact Nat.le_refl _
theorem extract_take (s : ByteArray) (k : Nat) (h : k ≤ s.size) : s.extract 0 k = str ((lst s).take k) := by
  apply ByteArray.ext
  rw [ByteArray.data_extract]
  apply Array.toList_inj.1
  rw [Array.toList_extract]
  show (s.data.toList.drop 0).take (k - 0) = s.data.toList.take k
  rfl
theorem str_append (L M : List UInt8) : str L ++ str M = str (L ++ M) := by
  apply ByteArray.ext
  rw [ByteArray.data_append]
  simp [str]
def bys (s : List UInt8) : List Value := s.map (fun b => Value.int .u8 (b.toNat : Int))
theorem bys_length (s : List UInt8) : (bys s).length = s.length := by simp [bys]
theorem bys_append (s r : List UInt8) : bys (s ++ r) = bys s ++ bys r := by simp [bys]
theorem bys_at (s : List UInt8) (k : Nat) : (bys s)[k]? = (s[k]?).map (fun b => Value.int .u8 (b.toNat : Int)) := by simp [bys]
theorem bys_one (s : List UInt8) : ∀ u ∈ bys s, u.oneCell' = true := by
  intro u hu
  obtain ⟨b, _, rfl⟩ := List.mem_map.1 hu
  rfl
theorem info_u8 : (Tryz.prog.info? 5).map (fun i => (i.zero, i.size, i.bytes)) = some (some (.int .u8 0), 1, 1) := by kernel_rfl
theorem rd_one_u8 {w : World} {z : Nat} (hz : w.heap.size = z) (b : UInt8) : Rd (w.alloc (.cells #[.int .u8 (b.toNat : Int)] 5)) (z + 1) 1 (some ⟨z, 0, none⟩) 1 (bys [b]) := by
  subst hz
  refine ⟨rfl, fun _ => ⟨w.heap.size, 0, rfl, by omega, fun j u hu => ?_⟩⟩
  rw [(Bk.new w 5 _).cell, Nat.zero_add]
  simpa [bys] using hu
theorem app_byte {w : World} {ops : Array Oper} {rest : List Oper} {o : Oper} {a : Act} {Q : Exit → Act → World → Prop} (hw : Region.wanted o (yielded ops a.tmps) = true) (s x : Operand)
    (ho : o.op = .call { callee := .builtin .append, args := #[s, x], argTypes := #[129, 129] })
    {base : Nat} {v : Value} {n : Nat} {xs : List UInt8} (hs : a.eval s = v) (hown : w.ownsRow base 5 1 v n (bys xs))
    {B : Nat} {A : Option Addr} {m c : Nat} {ys : List UInt8} (hx : a.eval x = .slice A m c) (hr : Rd w B 1 A m (bys ys))
    (hlen : n + m ≤ 140737488355328) (hbase : base ≤ w.heap.size)
    (h : ∀ A' c' w', w'.ownsRow base 5 1 (.slice A' (n + m) c') (n + m) (bys (xs ++ ys)) → w.grownBy w' v.ownBlock →
      ((Value.slice A' (n + m) c').ownBlock = v.ownBlock ∨ (Value.slice A' (n + m) c').ownBlock = some w.heap.size) → wpList Tryz.prog ops Q rest (a.put o.dst (.slice A' (n + m) c')) w') :
    wpList Tryz.prog ops Q (o :: rest) a w := by
  obtain ⟨i0, hi, hz0, hz1, hz2⟩ := info_parts info_u8
  refine wpList_app hw s x _ ho base _ i0 (.int .u8 0) 1 1 Tryz.underlying129 hi hz0 hz1 hz2 rfl (by decide) v n (bys xs) hs hown B A m c (bys ys) hx hr (bys_one ys)
    (by unfold maxLen; omega) (by omega) hbase ?_
  intro v' w' h2 h3 h4
  obtain ⟨A', c', rfl⟩ := own_form h2
  rw [← bys_append] at h2
  exact h A' c' w' h2 h3 h4
set_option maxRecDepth 100000 in
theorem conv_row {w : World} {base : Nat} {A : Option Addr} {n c : Nat} {s : List UInt8} (h : w.ownsRow base 5 1 (.slice A n c) n (bys s)) :
    (convert 129 9 (.slice A n c)).run Tryz.prog w = .ok (.string (str s)) w := by
  have hl : s.length = n := by have := h.1; rw [bys_length] at this; omega
  rcases h.2 with ⟨hv, h0⟩ | ⟨g, cap, cur, hv, _, hh, hnc, _⟩
  · injection hv with e1 e2 e3
    subst e1; subst e3; subst h0
    have : s = [] := List.eq_nil_of_length_eq_zero hl
    subst this
    rw [run_convert_bytes_string w _ _ _ none 0 0 Tryz.underlying129 Tryz.underlying5 Tryz.underlying9]
    rfl
  · injection hv with e1 e2 e3
    subst e1; subst e3; subst hl
    exact run_convert_bytes_back w _ _ _ ⟨g, 0, none⟩ c s Tryz.underlying129 Tryz.underlying5 Tryz.underlying9 (fun j hj => by
      have := h.cells (g := g) rfl j (.int .u8 (s[j].toNat : Int)) (by rw [bys_at, List.getElem?_eq_getElem hj]; rfl)
      exact this)
theorem rd_one_u8x {w : World} {z : Nat} (hz : w.heap.size = z) {b : UInt8} {x : Int} (hx : (b.toNat : Int) = x) : Rd (w.alloc (.cells #[.int .u8 x] 5)) (z + 1) 1 (some ⟨z, 0, none⟩) 1 (bys [b]) := by
  subst hx; exact rd_one_u8 hz b
theorem own_below {w w' : World} {base : Nat} {e : TypeId} {v : Value} {n : Nat} {xs : List Value} {W : World} (ho : w.ownsRow base e 1 v n xs) (hb : Below base W w) (o : Obj) (hg : (w.alloc o).grownBy w' v.ownBlock) (hbw : base ≤ w.heap.size) : Below base W w' :=
  (hb.alloc hbw o).grown hg (by simp; omega) (fun q h => (ho.lt q h).1)

theorem own_low {w : World} {base base' : Nat} {e : TypeId} {size n : Nat} {v : Value} {xs : List Value} (h : w.ownsRow base e size v n xs) (hb : base' ≤ base) : w.ownsRow base' e size v n xs := by
  refine ⟨h.1, ?_⟩
  rcases h.2 with h2 | ⟨g, cap, cur, h1, h2, h3⟩
  · exact .inl h2
  · exact .inr ⟨g, cap, cur, h1, by omega, h3⟩
theorem conv_bytes (s : ByteArray) (w : World) : ∃ (c : Nat) (w1 : World), (convert 9 129 (.string s)).run Tryz.prog w = .ok (.slice (some ⟨w.heap.size, 0, none⟩) s.size c) w1 ∧ Below w.heap.size w w1 ∧ w.heap.size < w1.heap.size ∧ s.size ≤ c ∧
    (∀ j b, (lst s)[j]? = some b → w1.cell? ⟨w.heap.size, j, none⟩ = some (.int .u8 (b.toNat : Int))) ∧ (∀ j, j < s.size → w1.frozen? ⟨w.heap.size, j, none⟩ = false) := by
  refine ⟨_, _, run_bytes_of_string w 9 129 5 s Tryz.underlying9 Tryz.underlying129 Tryz.underlying5, ((Below.refl _ w).drew).alloc (Nat.le_refl _) _, by simp, ?_, fun j b hj => ?_, fun j hj => ?_⟩
  · exact grownCap_ge w s.size 0 _
  · have hjs : j < s.size := by rw [← lst_length]; exact (List.getElem?_eq_some_iff.1 hj).1
    rw [lst_at s j hjs] at hj
    injection hj with hj; subst hj
    exact (World.cell?_alloc_mark w.drew _ _ _ j).trans (bytesRow_at s _ j hjs)
  · unfold World.frozen?
    rw [show (w.drew.alloc _).heap[w.heap.size]? = _ from heap_alloc_new w.drew _]
    have hsz : j < (bytesRow s (grownCap w s.size 0 5)).size := by
      unfold bytesRow
      simp only [Array.size_append, Array.size_map]
      have : s.size = s.data.size := rfl
      omega
    simp
    omega
theorem size_empty (s : ByteArray) : s.toList.isEmpty = decide (s.size = 0) := by
  rw [ByteArray.toList_eq]
  rcases s with ⟨d⟩
  by_cases h : d.size = 0
  · have : d = #[] := Array.eq_empty_of_size_eq_zero h
    subst this; rfl
  · have h2 : ¬ d.toList = [] := by intro e; apply h; rw [← Array.length_toList, e]; rfl
    have h3 : ByteArray.size ⟨d⟩ ≠ 0 := h
    simp [h3]
    intro e; apply h; rw [e]; rfl
theorem str_ne {L : List UInt8} (h : L ≠ []) : (str L).toList.isEmpty = false := by
  rw [size_empty, str_size]
  exact decide_eq_false (fun e => h (List.eq_nil_of_length_eq_zero e))
theorem addp (b off i : Nat) : (⟨b, off, none⟩ : Addr).add i = ⟨b, off + i, none⟩ := by unfold Addr.add; split <;> simp_all
theorem info_str : (Tryz.prog.info? 9).map (fun i => (i.zero, i.size, i.bytes)) = some (some (.string ByteArray.empty), 1, 16) := by kernel_rfl
theorem strs_one (l : List ByteArray) : ∀ u ∈ strs l, u.oneCell' = true := by
  intro u hu
  unfold strs at hu
  obtain ⟨x, _, rfl⟩ := List.mem_map.1 hu
  rfl
theorem run_app_str {w : World} (ty : TypeId) {base : Nat} {v : Value} {n : Nat} {xs : List ByteArray} (hown : w.ownsRow base 9 1 v n (strs xs))
    {B : Nat} {A : Option Addr} {m c : Nat} {ys : List ByteArray} (hr : Rd w B 1 A m (strs ys)) (hlen : n + m ≤ 8796093022208) (hbase : base ≤ w.heap.size) :
    ∃ A' c' w', (Builtin.append_ #[43, 43] ty #[v, .slice A m c]).run Tryz.prog w = .ok (.slice A' (n + m) c') w' ∧ w'.ownsRow base 9 1 (.slice A' (n + m) c') (n + m) (strs (xs ++ ys)) ∧
      w.grownBy w' v.ownBlock ∧ ((Value.slice A' (n + m) c').ownBlock = v.ownBlock ∨ (Value.slice A' (n + m) c').ownBlock = some w.heap.size) := by
  obtain ⟨i0, hi, hz0, hz1, hz2⟩ := info_parts info_str
  obtain ⟨v', w', h1, h2, h3, h4⟩ := run_app (P := Tryz.prog) base 43 ty 9 i0 (.string ByteArray.empty) 1 16 Tryz.underlying43 hi hz0 hz1 hz2 rfl (by decide) v n (strs xs) hown B A m c (strs ys) hr (strs_one ys)
    (by unfold maxLen; omega) (by omega) hbase
  obtain ⟨A', c', rfl⟩ := own_form h2
  rw [← strs_append] at h2
  exact ⟨A', c', w', h1, h2, h3, h4⟩
theorem app_str {w : World} {ops : Array Oper} {rest : List Oper} {o : Oper} {a : Act} {Q : Exit → Act → World → Prop} (hw : Region.wanted o (yielded ops a.tmps) = true) (s x : Operand)
    (ho : o.op = .call { callee := .builtin .append, args := #[s, x], argTypes := #[43, 43] })
    {base : Nat} {v : Value} {n : Nat} {xs : List ByteArray} (hs : a.eval s = v) (hown : w.ownsRow base 9 1 v n (strs xs))
    {B : Nat} {A : Option Addr} {m c : Nat} {ys : List ByteArray} (hx : a.eval x = .slice A m c) (hr : Rd w B 1 A m (strs ys))
    (hlen : n + m ≤ 8796093022208) (hbase : base ≤ w.heap.size)
    (h : ∀ A' c' w', w'.ownsRow base 9 1 (.slice A' (n + m) c') (n + m) (strs (xs ++ ys)) → w.grownBy w' v.ownBlock →
      ((Value.slice A' (n + m) c').ownBlock = v.ownBlock ∨ (Value.slice A' (n + m) c').ownBlock = some w.heap.size) → wpList Tryz.prog ops Q rest (a.put o.dst (.slice A' (n + m) c')) w') :
    wpList Tryz.prog ops Q (o :: rest) a w := by
  obtain ⟨A', c', w', h1, h2, h3, h4⟩ := run_app_str o.type hown (c := c) hr hlen hbase
  refine wpList_step fun K hK => ?_
  rw [if_pos hw]
  unfold Oper.wp execOp
  simp only [ho, resolve, invoke, builtin, Sem.run_bind, Sem.run_pure, Result.andThen_ok, List.map_toArray, List.map_cons, List.map_nil, hs, hx, h1]
  exact hK _ _ (h A' c' w' h2 h3 h4)
theorem rd_one_str (w : World) (x : ByteArray) : Rd (w.alloc (.cells #[.string x] 9)) (w.heap.size + 1) 1 (some ⟨w.heap.size, 0, none⟩) 1 (strs [x]) := by
  have := Rd.of_own (own_built w 0 9 #[.string x] 1 rfl (by decide) (Nat.zero_le _))
  simpa [strs] using this
end Go.Proofs.YtddieenjdaociaaGreatDoor
