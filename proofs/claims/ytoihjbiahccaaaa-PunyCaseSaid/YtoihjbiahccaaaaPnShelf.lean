/- strings.LastIndexByte and slices.Insert at this dump (the shelf's contracts): the place of the last byte; a number put into a row of the call's own. -/
import Derived.Test.YtoihjbiahccaaaaPnNu
import Derived.Shelf.Strings.LastIndex
import Derived.Shelf.Spec.SlicesInsert
import Derived.Shelf.Spec.SlicesInsertGrow
namespace Go.Proofs.Ytoihjbiahccaaaa
open Go Go.RowKit Go.Shelf Go.Proofs
set_option linter.unusedVariables false

def last_ren : Go.Shelf.Ren := ⟨fun | 149 => 44 | 222 => 54 | n => n, fun | 3 => 3 | 4 => 4 | 5 => 5 | 9 => 9 | n => n, fun | n => n⟩
theorem last_lays : Lays.n149 Try.prog last_ren := {
  mixed := by kernel_rfl
  f149 := Try.func44.trans (congrArg some (by kernel_rfl))
  f222 := Try.func54.trans (congrArg some (by kernel_rfl))
  t3 := Try.underlying3
  a3 := Try.isAgg3
  z3 := Try.sizeOf3
  v3 := Try.zeroValue3
  t4 := Try.underlying4
  a4 := Try.isAgg4
  z4 := Try.sizeOf4
  v4 := Try.zeroValue4
  t5 := Try.underlying5
  a5 := Try.isAgg5
  z5 := Try.sizeOf5
  v5 := Try.zeroValue5
  t9 := Try.underlying9
  a9 := Try.isAgg9
  z9 := Try.sizeOf9
  v9 := Try.zeroValue9 }
def ins_ren : Go.Shelf.Ren := ⟨fun | 21 => 46 | 27 => 56 | 28 => 57 | 35 => 59 | 39 => 60 | n => n,
  fun | 0 => 0 | 3 => 3 | 4 => 4 | 22 => 22 | n => n, fun | n => n⟩
theorem ins_lays : Lays2.n21 Try.prog ins_ren := {
  mixed := by kernel_rfl
  f21 := Try.func46.trans (congrArg some (by kernel_rfl))
  f27 := Try.func56.trans (congrArg some (by kernel_rfl))
  f28 := Try.func57.trans (congrArg some (by kernel_rfl))
  f35 := Try.func59.trans (congrArg some (by kernel_rfl))
  f39 := Try.func60.trans (congrArg some (by kernel_rfl))
  t0 := Try.underlying0
  a0 := Try.isAgg0
  z0 := Try.sizeOf0
  v0 := Try.zeroValue0
  t3 := Try.underlying3
  a3 := Try.isAgg3
  z3 := Try.sizeOf3
  v3 := Try.zeroValue3
  t4 := Try.underlying4
  a4 := Try.isAgg4
  z4 := Try.sizeOf4
  v4 := Try.zeroValue4
  t22 := Try.underlying22
  a22 := Try.isAgg22
  z22 := Try.sizeOf22
  v22 := Try.zeroValue22
  i3 := info_int }
theorem last_any (s : ByteArray) (c : Int) (hs : s.size < 4611686018427387904) (w : World) :
    Calls Try.prog 44 #[.string s, .int .u8 c] w fun e w' => e = .returned (.int .i64 (Lib.lastIndexByte s c)) ∧ w' = w := Any.strings_LastIndexByte last_lays s c hs w
/-! ### A number put into a row of the call's own -/
theorem addp (b off i : Nat) : (⟨b, off, none⟩ : Addr).add i = ⟨b, off + i, none⟩ := by unfold Addr.add; split <;> simp_all
theorem sets_row {g : Nat} {e : TypeId} : ∀ (vs : List Value) (o : Nat) (w : World) (cur : Array Value), w.heap[g]? = some (.cells cur e (0, 0)) →
    ∃ cur' : Array Value, (w.setCells g o vs).heap[g]? = some (.cells cur' e (0, 0)) ∧ cur'.size = cur.size
  | [], _, _, cur, h => ⟨cur, h, rfl⟩
  | v :: r, o, w, cur, h => by
    have h1 : Bk (w.setCell ⟨g, o, none⟩ v) g e (cur.setIfInBounds o v) := Bk.set_ (w := w) (g := g) (t := e) (cs := cur) h o v
    obtain ⟨c', k1, k2⟩ := sets_row r (o + 1) (w.setCell ⟨g, o, none⟩ v) _ h1
    exact ⟨c', k1, by rw [k2]; simp⟩
theorem below_sets {B g : Nat} (hg : B ≤ g) : ∀ (vs : List Value) (o : Nat) {a w : World}, Below B a w → Below B a (w.setCells g o vs)
  | [], _, _, _, h => h
  | v :: r, o, _, w, h => below_sets hg r (o + 1) (h.setCell (p := ⟨g, o, none⟩) hg v)
theorem own_of_cells {w : World} {base g cap n : Nat} {e : TypeId} {xs : List Value} {cur : Array Value} (hb : base ≤ g) (hh : w.heap[g]? = some (.cells cur e (0, 0))) (hn : n ≤ cap) (hm : cap ≤ maxLen) (hs : cur.size = cap)
    (hx : xs.length = n) (hc : ∀ j v, xs[j]? = some v → w.cell? ⟨g, j, none⟩ = some v) : w.ownsRow base e 1 (.slice (some ⟨g, 0, none⟩) n cap) n xs := by
  refine ⟨by omega, .inr ⟨g, cap, cur, rfl, hb, hh, hn, hm, by omega, ?_⟩⟩
  rw [Nat.mul_one]
  apply List.ext_getElem?
  intro j
  by_cases hj : j < n
  · have h1 := hc j xs[j] (List.getElem?_eq_getElem (by omega))
    rw [cell_of_row w g j cur e (0, 0) hh] at h1
    rw [List.getElem?_take_of_lt hj, Array.getElem?_toList, h1, List.getElem?_eq_getElem (by omega)]
  · rw [List.getElem?_eq_none (by rw [List.length_take]; omega), List.getElem?_eq_none (by omega)]
theorem ins_length (xs : List Int) (i : Nat) (x : Int) (h : i ≤ xs.length) : (Pn.ins xs i x).length = xs.length + 1 := by unfold Pn.ins; simp; omega
theorem ins_at (xs : List Int) (i : Nat) (x : Int) (h : i ≤ xs.length) (j : Nat) : (ints (Pn.ins xs i x))[j]? = if j < i then (ints xs)[j]? else if j = i then some (.int .i64 x) else (ints xs)[j - 1]? := by
  rw [ints_at, ints_at, ints_at]
  unfold Pn.ins
  by_cases h1 : j < i
  · rw [if_pos h1, List.append_assoc, List.getElem?_append_left (by rw [List.length_take]; omega), List.getElem?_take_of_lt h1]
  · rw [if_neg h1]
    by_cases h2 : j = i
    · subst h2
      rw [if_pos rfl, List.getElem?_append_left (by simp; omega), List.getElem?_append_right (by rw [List.length_take]; omega)]
      have : j - (xs.take j).length = 0 := by rw [List.length_take]; omega
      rw [this]; rfl
    · rw [if_neg h2, List.getElem?_append_right (by simp; omega), List.getElem?_drop]
      congr 2
      simp; omega
def InsRet (base : Nat) (xs : List Int) (i : Nat) (x : Int) (w : World) (e : Ending) (w' : World) : Prop :=
  ∃ A c, e = .returned (.slice A (xs.length + 1) c) ∧ w'.ownsRow base 3 1 (.slice A (xs.length + 1) c) (xs.length + 1) (ints (Pn.ins xs i x)) ∧ Below base w w'
theorem ins_grow (xs : List Int) (x : Int) (base c : Nat) (w : World) (hl : xs.length ≤ 1000000) (hbase : base ≤ w.heap.size) :
    InsRet base xs xs.length x w (.returned (.slice (some ⟨w.heap.size, 0, none⟩) (xs.length + 1) (grownCap w (xs.length + 1) c 3)))
      (w.drew.alloc (.cells ((ints xs ++ [Value.int .i64 x]).toArray ++ Builtin.zeroCells (Value.int .i64 0).cells (grownCap w (xs.length + 1) c 3 - (xs.length + 1))) 3)) := by
  have hge := grownCap_ge w (xs.length + 1) c 3
  have hcm := grownCap_le_maxLen w (xs.length + 1) c 3 (by unfold maxLen; omega)
  generalize grownCap w (xs.length + 1) c 3 = G at *
  refine ⟨_, _, rfl, ?_, ((Below.refl base w).drew).alloc hbase _⟩
  have hnew := heap_alloc_new w.drew (.cells ((ints xs ++ [Value.int .i64 x]).toArray ++ Builtin.zeroCells (Value.int .i64 0).cells (G - (xs.length + 1))) 3)
  refine own_of_cells hbase hnew hge hcm ?_ (by rw [ints_length, ins_length _ _ _ (Nat.le_refl _)]) ?_
  · simp only [Array.size_append, List.size_toArray, size_zeroCells, List.length_append, ints_length]
    simp [Value.cells]; omega
  · intro j v hj
    have hc : (w.drew.alloc (.cells ((ints xs ++ [Value.int .i64 x]).toArray ++ Builtin.zeroCells (Value.int .i64 0).cells (G - (xs.length + 1))) 3)).cell? ⟨w.heap.size, j, none⟩ = ((ints xs ++ [Value.int .i64 x]).toArray ++ Builtin.zeroCells (Value.int .i64 0).cells (G - (xs.length + 1)))[j]? :=
      cell_of_row _ _ _ _ _ (0, 0) hnew
    rw [hc]
    have hjl := (List.getElem?_eq_some_iff.1 hj).1
    rw [ints_length, ins_length _ _ _ (Nat.le_refl _)] at hjl
    rw [ins_at xs _ x (Nat.le_refl _)] at hj
    rw [Array.getElem?_append_left (by simp [ints_length]; omega), List.getElem?_toArray]
    by_cases h1 : j < xs.length
    · rw [if_pos h1] at hj
      rw [List.getElem?_append_left (by rw [ints_length]; exact h1)]; exact hj
    · have h2 : j = xs.length := by omega
      rw [if_neg h1, if_pos h2] at hj
      rw [List.getElem?_append_right (by rw [ints_length]; omega), ints_length, h2, Nat.sub_self]; exact hj
set_option maxHeartbeats 1000000 in
theorem insert_any (A : Option Addr) (c : Nat) (xs : List Int) (i : Nat) (x : Int) (vb base : Nat) (w : World) (ho : w.ownsRow base 3 1 (.slice A xs.length c) xs.length (ints xs)) (hb : Bk w vb 3 #[.int .i64 x])
    (hne : (Value.slice A xs.length c).ownBlock ≠ some vb) (hi : i ≤ xs.length) (hl : xs.length ≤ 1000000) (hbase : base ≤ w.heap.size) :
    Calls Try.prog 46 #[.slice A xs.length c, .int .i64 (i : Int), .slice (some ⟨vb, 0, none⟩) 1 1] w (InsRet base xs i x w) := by
  have hvs : ∀ j v, ([Value.int .i64 x] : List Value)[j]? = some v → w.cell? ⟨vb, 0 + j, none⟩ = some v := by
    intro j v hj
    rw [hb.cell, Nat.zero_add]
    simpa using hj
  have h1v : ∀ v ∈ ([Value.int .i64 x] : List Value), v.oneCell' = true := by intro v hv; rw [List.mem_singleton.1 hv]; rfl
  have hcs0 := fun (g : Nat) => ho.cells (g := g)
  rcases ho.2 with ⟨hv, h0⟩ | ⟨g, cap, cur, hv, hbg, hh, hnc, hcm, hcs, htk⟩
  · injection hv with e1 e2 e3
    subst e1; subst e3
    have hx : xs = [] := List.eq_nil_of_length_eq_zero h0
    subst hx
    have : i = 0 := by simpa using hi
    subst this
    refine (Any2.slices_Insert_int_end_grow ins_lays none 0 0 vb 0 1 1 [] [Value.int .i64 x] w (by omega) (by omega) (by omega) (by omega) rfl rfl (fun _ => rfl) (fun a h => by cases h) hvs h1v).mono ?_
    rintro e w' ⟨rfl, rfl⟩
    exact ins_grow [] x base 0 w (by simp) hbase
  · injection hv with e1 e2 e3
    subst e1; subst e3
    have hcells : ∀ j v, (ints xs)[j]? = some v → w.cell? ⟨g, 0 + j, none⟩ = some v := by
      intro j v hj
      have := hcs0 g rfl j v hj
      rwa [addp] at this
    have hsome : ∀ j, j < c → (w.cell? ⟨g, 0 + j, none⟩).isSome = true := by
      intro j hj
      rw [cell_of_row w g (0 + j) cur _ (0, 0) hh, Nat.zero_add, Array.getElem?_eq_getElem (by omega)]; rfl
    have hfz : ∀ j, w.frozen? ⟨g, 0 + j, none⟩ = false := fun j => Bk.frozen (w := w) (g := g) (t := 3) (cs := cur) hh (0 + j)
    have hgv : vb ≠ g := fun e => hne (by rw [e]; rfl)
    by_cases hin : i = xs.length
    · subst hin
      by_cases hroom : c < xs.length + 1
      · refine (Any2.slices_Insert_int_end_grow ins_lays (some ⟨g, 0, none⟩) xs.length c vb 0 1 1 (ints xs) [Value.int .i64 x] w (by omega) hnc hroom (by omega) (ints_length xs) rfl (fun h => by cases h)
          (fun a h j v hj => by injection h with h; subst h; rw [addp]; exact hcells j v hj) hvs h1v).mono ?_
        rintro e w' ⟨rfl, rfl⟩
        exact ins_grow xs x base c w hl hbase
      · refine (Any2.slices_Insert_int_end_room ins_lays g 0 xs.length c vb 0 1 1 [Value.int .i64 x] w (by omega) (by omega) (by unfold maxLen at hcm; omega) rfl
          (fun j hj => by rw [Nat.add_assoc]; exact hsome _ (by omega)) (fun j hj => by rw [Nat.add_assoc]; exact hfz _) hvs h1v).mono ?_
        rintro e w' ⟨rfl, rfl⟩
        obtain ⟨cur', k1, k2⟩ := sets_row [Value.int .i64 x] (0 + xs.length) w cur hh
        refine ⟨_, _, rfl, own_of_cells hbg k1 (by omega) hcm (by omega) (by rw [ints_length, ins_length _ _ _ (Nat.le_refl _)]) ?_, below_sets hbg _ _ (Below.refl base w)⟩
        intro j v hj
        have hjl := (List.getElem?_eq_some_iff.1 hj).1
        rw [ints_length, ins_length _ _ _ (Nat.le_refl _)] at hjl
        rw [ins_at xs _ x (Nat.le_refl _)] at hj
        by_cases h1 : j < xs.length
        · rw [if_pos h1] at hj
          rw [World.cell?_setCells_out g _ _ _ _ (fun _ _ => .inl (by simp; omega))]
          have := hcells j v hj; rwa [Nat.zero_add] at this
        · have h2 : j = xs.length := by omega
          rw [if_neg h1, if_pos h2] at hj
          subst h2
          have := World.cell?_setCells_in g [Value.int .i64 x] (0 + xs.length) w (fun j hj => by simp at hj; subst hj; exact hsome _ (by omega)) 0 (by simp)
          rw [Nat.add_zero, Nat.zero_add] at this
          rw [Nat.zero_add, this]; exact hj
    · have hlt : i < xs.length := by omega
      by_cases hroom : c < xs.length + 1
      · refine (Any2.slices_Insert_int_grow ins_lays g 0 xs.length c i vb 0 1 1 (ints xs) [Value.int .i64 x] w hlt (by omega) hnc hroom (by omega) (ints_length xs) rfl hcells hvs (ints_one xs) h1v).mono ?_
        rintro e w' ⟨rfl, rfl⟩
        show InsRet base xs i x w (.returned (.slice (some ⟨w.heap.size, 0, none⟩) (xs.length + 1) (grownCap w (xs.length + 1) c 3))) ((((w.alloc (.cells (((ints xs).take i).toArray ++ Builtin.zeroCells (Value.int .i64 0).cells (xs.length + 1 - i) ++ Builtin.zeroCells (Value.int .i64 0).cells (grownCap w (xs.length + 1) c 3 - (xs.length + 1))) 3)).drew.setCells w.heap.size i [Value.int .i64 x]).drew).setCells w.heap.size (i + 1) ((ints xs).drop i))
        have hge := grownCap_ge w (xs.length + 1) c 3
        have hcm2 := grownCap_le_maxLen w (xs.length + 1) c 3 (by unfold maxLen; omega)
        generalize grownCap w (xs.length + 1) c 3 = G at *
        have hrs : (((ints xs).take i).toArray ++ Builtin.zeroCells (Value.int .i64 0).cells (xs.length + 1 - i) ++ Builtin.zeroCells (Value.int .i64 0).cells (G - (xs.length + 1))).size = G := by
          simp only [Array.size_append, List.size_toArray, size_zeroCells, List.length_take, ints_length]
          simp [Value.cells]; omega
        have hrt : ∀ j, j < i → (((ints xs).take i).toArray ++ Builtin.zeroCells (Value.int .i64 0).cells (xs.length + 1 - i) ++ Builtin.zeroCells (Value.int .i64 0).cells (G - (xs.length + 1)))[j]? = (ints xs)[j]? := by
          intro j hj
          rw [Array.append_assoc, Array.getElem?_append_left (by simp [ints_length]; omega), List.getElem?_toArray, List.getElem?_take_of_lt hj]
        generalize (((ints xs).take i).toArray ++ Builtin.zeroCells (Value.int .i64 0).cells (xs.length + 1 - i) ++ Builtin.zeroCells (Value.int .i64 0).cells (G - (xs.length + 1))) = ROW at *
        have hnew : (w.alloc (.cells ROW 3)).drew.heap[w.heap.size]? = some (.cells ROW 3 (0, 0)) := heap_alloc_new w (.cells ROW 3)
        have hal : ∀ j, (w.alloc (.cells ROW 3)).drew.cell? ⟨w.heap.size, j, none⟩ = ROW[j]? := fun j => cell_of_row _ _ _ _ _ (0, 0) hnew
        have hbl0 : Below base w (w.alloc (.cells ROW 3)).drew := ((Below.refl base w).alloc hbase _).drew
        generalize (w.alloc (.cells ROW 3)).drew = W0 at *
        have hsome0 : ∀ j, j < G → (W0.cell? ⟨w.heap.size, j, none⟩).isSome = true := by
          intro j hj
          rw [hal, Array.getElem?_eq_getElem (by omega)]; rfl
        obtain ⟨cur1, k1, k2⟩ := sets_row [Value.int .i64 x] i W0 ROW hnew
        obtain ⟨cur2, k3, k4⟩ := sets_row ((ints xs).drop i) (i + 1) (W0.setCells w.heap.size i [Value.int .i64 x]).drew cur1 k1
        refine ⟨_, _, rfl, own_of_cells hbase k3 hge hcm2 (by omega) (by rw [ints_length, ins_length _ _ _ hi]) ?_, below_sets hbase _ _ (below_sets hbase _ _ hbl0).drew⟩
        intro j v hj
        have hjl := (List.getElem?_eq_some_iff.1 hj).1
        rw [ints_length, ins_length _ _ _ hi] at hjl
        rw [ins_at xs _ x hi] at hj
        by_cases h1 : j < i
        · rw [if_pos h1] at hj
          rw [World.cell?_setCells_out _ _ _ _ _ (fun _ _ => .inl (by simp; omega))]
          show (W0.setCells w.heap.size i [Value.int .i64 x]).cell? _ = _
          rw [World.cell?_setCells_out _ _ _ _ _ (fun _ _ => .inl (by simp; omega)), hal, hrt j h1]; exact hj
        · rw [if_neg h1] at hj
          by_cases h2 : j = i
          · subst h2
            rw [if_pos rfl] at hj
            rw [World.cell?_setCells_out _ _ _ _ _ (fun _ _ => .inl (by simp))]
            show (W0.setCells w.heap.size j [Value.int .i64 x]).cell? _ = _
            have := World.cell?_setCells_in w.heap.size [Value.int .i64 x] j W0 (fun q hq => by simp at hq; subst hq; exact hsome0 _ (by omega)) 0 (by simp)
            rw [Nat.add_zero] at this
            rw [this]; exact hj
          · rw [if_neg h2] at hj
            have hq : i + 1 + (j - (i + 1)) = j := by omega
            have hlen : j - (i + 1) < ((ints xs).drop i).length := by rw [List.length_drop, ints_length]; omega
            have := World.cell?_setCells_in w.heap.size ((ints xs).drop i) (i + 1) (W0.setCells w.heap.size i [Value.int .i64 x]).drew (fun q hq => by
              show ((W0.setCells w.heap.size i [Value.int .i64 x]).cell? _).isSome = true
              rw [List.length_drop, ints_length] at hq
              exact Go.Proofs.isSome_setCells _ _ _ _ (fun q hq => by simp at hq; subst hq; exact hsome0 _ (by omega)) _ (hsome0 _ (by omega))) (j - (i + 1)) hlen
            rw [hq] at this
            rw [this, ← hj, ← List.getElem?_eq_getElem hlen, List.getElem?_drop]
            congr 1; omega
      · refine (Any2.slices_Insert_int_shift ins_lays g 0 xs.length c i vb 0 1 1 (ints xs) [Value.int .i64 x] w hlt (by omega) (by omega) (by unfold maxLen at hcm; omega) hgv (ints_length xs) rfl hcells
          (fun j hj => hsome j (by omega)) (fun j _ => hfz j) hvs (ints_one xs) h1v 3 3 1 cur.size (by unfold World.shape?; rw [show w.heap[vb]? = some (.cells #[.int .i64 x] 3 (0, 0)) from hb]; rfl)
          (by unfold World.shape?; rw [hh]) (by omega) (hb.frozen 0) (hb.frozen 1)).mono ?_
        rintro e w' ⟨rfl, rfl⟩
        obtain ⟨cur1, k1, k2⟩ := sets_row ((ints xs).drop i) (0 + (i + 1)) w.drew cur hh
        obtain ⟨cur2, k3, k4⟩ := sets_row [Value.int .i64 x] (0 + i) (w.drew.setCells g (0 + (i + 1)) ((ints xs).drop i)) cur1 k1
        refine ⟨_, _, rfl, own_of_cells hbg k3 (by omega) hcm (by omega) (by rw [ints_length, ins_length _ _ _ hi]) ?_, below_sets hbg _ _ (below_sets hbg _ _ (Below.refl base w).drew)⟩
        intro j v hj
        have hjl := (List.getElem?_eq_some_iff.1 hj).1
        rw [ints_length, ins_length _ _ _ hi] at hjl
        rw [ins_at xs _ x hi] at hj
        by_cases h1 : j < i
        · rw [if_pos h1] at hj
          rw [World.cell?_setCells_out _ _ _ _ _ (fun _ _ => .inl (by simp; omega)), World.cell?_setCells_out _ _ _ _ _ (fun _ _ => .inl (by simp; omega))]
          have := hcells j v hj; rw [Nat.zero_add] at this; exact this
        · rw [if_neg h1] at hj
          by_cases h2 : j = i
          · subst h2
            rw [if_pos rfl] at hj
            have := World.cell?_setCells_in g [Value.int .i64 x] (0 + j) (w.drew.setCells g (0 + (j + 1)) ((ints xs).drop j)) (fun q hq => by
              simp at hq; subst hq
              rw [World.cell?_setCells_out _ _ _ _ _ (fun _ _ => .inl (by simp))]
              exact hsome j (by omega)) 0 (by simp)
            simp only [Nat.zero_add, Nat.add_zero] at this ⊢
            rw [this]; exact hj
          · rw [if_neg h2] at hj
            rw [World.cell?_setCells_out _ _ _ _ _ (fun _ _ => .inr (by simp; omega))]
            have hq : 0 + (i + 1) + (j - (i + 1)) = j := by omega
            have hlen : j - (i + 1) < ((ints xs).drop i).length := by rw [List.length_drop, ints_length]; omega
            have := World.cell?_setCells_in g ((ints xs).drop i) (0 + (i + 1)) w.drew (fun q hq => by
              rw [List.length_drop, ints_length] at hq
              have := hsome (i + 1 + q) (by omega)
              rw [← Nat.add_assoc] at this
              exact this) (j - (i + 1)) hlen
            rw [hq] at this
            rw [this, ← hj, ← List.getElem?_eq_getElem hlen, List.getElem?_drop]
            congr 1; omega
end Go.Proofs.Ytoihjbiahccaaaa
